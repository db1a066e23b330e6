/-
  DERIVED. GIVEN WITH THE SEED: THE CARDS: each row of YthpknbflmcoanaaDoorRows.lean that lists a variable, with what it lists TIED to the program's text (the seventh form; the later family's looks); each row that meets fmt, with fmt's text TOLD by the authors' own Lean function (tested against real Go, not proved from fmt's source: count such statements apart). THE CARD IS WHAT COUNTS. Prove the row's statement (the work); the ties are given (YthpknbflmcoanaaDoorTie.lean); close each card by the builder's one call (the guide's Derived/Test/ToyasCard.lean, 'card_holds'). Laid BY PROGRAM, IN A SANDBOX (cutbox-door.mjs). By AI agents, Wed Nov 11 2026. No macro, syntax, notation, axiom, sorry.
-/
import Derived.Test.YthpknbflmcoanaaDoorRows
import GoSem.ClaimSeven
namespace Go.Proofs.YthpknbflmcoanaaDoor
namespace Rows

/-- THE TIED CARD OF 'pensionlaw21.ReductionValidAgrees'. -/
def reductionValidAgreesCard : Claim7 := { stood := { row := reductionValidAgreesRow, standIns := [], harness := (true, "f03ffc7306dc8b8a4b7c72d8cf63ad08cf0c74adf4f1d4894e689d9cbc415603"), looks := false }, kinds := [], alts := [], laidByText := true, laidKinds := [.data], laidTests := true, laidLooks := .later }
def ReductionValidAgreesCardSaid : Prop := Claim7.holds Tryd.pinned (.plain (OpenSpec.ofChange reductionValidAgreesSpec)) reductionValidAgreesCard

/-- THE TIED CARD OF 'pensionlaw21.ReductionValidNeedsEachField'. -/
def reductionValidNeedsEachFieldCard : Claim7 := { stood := { row := reductionValidNeedsEachFieldRow, standIns := [], harness := (true, "f03ffc7306dc8b8a4b7c72d8cf63ad08cf0c74adf4f1d4894e689d9cbc415603"), looks := false }, kinds := [], alts := [], laidByText := true, laidKinds := [.data], laidTests := true, laidLooks := .later }
def ReductionValidNeedsEachFieldCardSaid : Prop := Claim7.holds Tryd.pinned (.plain (OpenSpec.ofChange reductionValidNeedsEachFieldSpec)) reductionValidNeedsEachFieldCard

/-- THE TIED CARD OF 'pensionlaw21.ReductionReducersAgree'. -/
def reductionReducersAgreeCard : Claim7 := { stood := { row := reductionReducersAgreeRow, standIns := [], harness := (true, "f03ffc7306dc8b8a4b7c72d8cf63ad08cf0c74adf4f1d4894e689d9cbc415603"), looks := false }, kinds := [], alts := [], laidByText := true, laidKinds := [.data], laidTests := true, laidLooks := .later }
def ReductionReducersAgreeCardSaid : Prop := Claim7.holds Tryd.pinned (.plain (OpenSpec.ofChange reductionReducersAgreeSpec)) reductionReducersAgreeCard

/-- THE TIED CARD OF 'pensionlaw21.ReductionReducersAreOthers'. -/
def reductionReducersAreOthersCard : Claim7 := { stood := { row := reductionReducersAreOthersRow, standIns := [], harness := (true, "f03ffc7306dc8b8a4b7c72d8cf63ad08cf0c74adf4f1d4894e689d9cbc415603"), looks := false }, kinds := [], alts := [], laidByText := true, laidKinds := [.data], laidTests := true, laidLooks := .later }
def ReductionReducersAreOthersCardSaid : Prop := Claim7.holds Tryd.pinned (.plain (OpenSpec.ofChange reductionReducersAreOthersSpec)) reductionReducersAreOthersCard

/-- THE TIED CARD OF 'pensionlaw21.ReductionDeductionsAgree'. -/
def reductionDeductionsAgreeCard : Claim7 := { stood := { row := reductionDeductionsAgreeRow, standIns := [], harness := (true, "f03ffc7306dc8b8a4b7c72d8cf63ad08cf0c74adf4f1d4894e689d9cbc415603"), looks := false }, kinds := [], alts := [], laidByText := true, laidKinds := [.data], laidTests := true, laidLooks := .later }
def ReductionDeductionsAgreeCardSaid : Prop := Claim7.holds Tryd.pinned (.plain (OpenSpec.ofChange reductionDeductionsAgreeSpec)) reductionDeductionsAgreeCard

/-- THE TIED CARD OF 'pensionlaw21.ReductionRejects'. -/
def reductionRejectsCard : Claim7 := { stood := { row := reductionRejectsRow, standIns := [], harness := (true, "f03ffc7306dc8b8a4b7c72d8cf63ad08cf0c74adf4f1d4894e689d9cbc415603"), looks := false }, kinds := [], alts := [], laidByText := true, laidKinds := [.data], laidTests := true, laidLooks := .later }
def ReductionRejectsCardSaid : Prop := Claim7.holds Tryd.pinned (.plain (OpenSpec.ofChange reductionRejectsSpec)) reductionRejectsCard

/-- THE TIED CARD OF 'pensionlaw21.ReductionRejectsInvalidElements'. -/
def reductionRejectsInvalidElementsCard : Claim7 := { stood := { row := reductionRejectsInvalidElementsRow, standIns := [], harness := (true, "f03ffc7306dc8b8a4b7c72d8cf63ad08cf0c74adf4f1d4894e689d9cbc415603"), looks := false }, kinds := [], alts := [], laidByText := true, laidKinds := [.data], laidTests := true, laidLooks := .later }
def ReductionRejectsInvalidElementsCardSaid : Prop := Claim7.holds Tryd.pinned (.plain (OpenSpec.ofChange reductionRejectsInvalidElementsSpec)) reductionRejectsInvalidElementsCard

/-- THE TIED CARD OF 'pensionlaw21.ReductionApplyAgrees'. -/
def reductionApplyAgreesCard : Claim7 := { stood := { row := reductionApplyAgreesRow, standIns := [], harness := (true, "f03ffc7306dc8b8a4b7c72d8cf63ad08cf0c74adf4f1d4894e689d9cbc415603"), looks := false }, kinds := [], alts := [], laidByText := true, laidKinds := [.data], laidTests := true, laidLooks := .later }
def ReductionApplyAgreesCardSaid : Prop := Claim7.holds Tryd.pinned (.plain (OpenSpec.ofChange reductionApplyAgreesSpec)) reductionApplyAgreesCard

/-- THE TIED CARD OF 'pensionlaw21.ReductionNetIsBounded'. -/
def reductionNetIsBoundedCard : Claim7 := { stood := { row := reductionNetIsBoundedRow, standIns := [], harness := (true, "f03ffc7306dc8b8a4b7c72d8cf63ad08cf0c74adf4f1d4894e689d9cbc415603"), looks := false }, kinds := [], alts := [], laidByText := true, laidKinds := [.data], laidTests := true, laidLooks := .later }
def ReductionNetIsBoundedCardSaid : Prop := Claim7.holds Tryd.pinned (.plain (OpenSpec.ofChange reductionNetIsBoundedSpec)) reductionNetIsBoundedCard

/-- THE TIED CARD OF 'pensionlaw21.ReductionAppliedOnce'. -/
def reductionAppliedOnceCard : Claim7 := { stood := { row := reductionAppliedOnceRow, standIns := [], harness := (true, "f03ffc7306dc8b8a4b7c72d8cf63ad08cf0c74adf4f1d4894e689d9cbc415603"), looks := false }, kinds := [], alts := [], laidByText := true, laidKinds := [.data], laidTests := true, laidLooks := .later }
def ReductionAppliedOnceCardSaid : Prop := Claim7.holds Tryd.pinned (.plain (OpenSpec.ofChange reductionAppliedOnceSpec)) reductionAppliedOnceCard

/-- THE TIED CARD OF 'pensionlaw21.ReductionIgnoresOrder'. -/
def reductionIgnoresOrderCard : Claim7 := { stood := { row := reductionIgnoresOrderRow, standIns := [], harness := (true, "f03ffc7306dc8b8a4b7c72d8cf63ad08cf0c74adf4f1d4894e689d9cbc415603"), looks := false }, kinds := [], alts := [], laidByText := true, laidKinds := [.data], laidTests := true, laidLooks := .later }
def ReductionIgnoresOrderCardSaid : Prop := Claim7.holds Tryd.pinned (.plain (OpenSpec.ofChange reductionIgnoresOrderSpec)) reductionIgnoresOrderCard

/-- THE TIED CARD OF 'pensionlaw21.ReductionWithoutCuts'. -/
def reductionWithoutCutsCard : Claim7 := { stood := { row := reductionWithoutCutsRow, standIns := [], harness := (true, "f03ffc7306dc8b8a4b7c72d8cf63ad08cf0c74adf4f1d4894e689d9cbc415603"), looks := false }, kinds := [], alts := [], laidByText := true, laidKinds := [.data], laidTests := true, laidLooks := .later }
def ReductionWithoutCutsCardSaid : Prop := Claim7.holds Tryd.pinned (.plain (OpenSpec.ofChange reductionWithoutCutsSpec)) reductionWithoutCutsCard

/-- THE TIED CARD OF 'pensionlaw21.ReductionIsMonotone'. -/
def reductionIsMonotoneCard : Claim7 := { stood := { row := reductionIsMonotoneRow, standIns := [], harness := (true, "f03ffc7306dc8b8a4b7c72d8cf63ad08cf0c74adf4f1d4894e689d9cbc415603"), looks := false }, kinds := [], alts := [], laidByText := true, laidKinds := [.data], laidTests := true, laidLooks := .later }
def ReductionIsMonotoneCardSaid : Prop := Claim7.holds Tryd.pinned (.plain (OpenSpec.ofChange reductionIsMonotoneSpec)) reductionIsMonotoneCard

/-- THE TIED CARD OF 'pensionlaw21.ReductionIgnoresOwnState'. -/
def reductionIgnoresOwnStateCard : Claim7 := { stood := { row := reductionIgnoresOwnStateRow, standIns := [], harness := (true, "f03ffc7306dc8b8a4b7c72d8cf63ad08cf0c74adf4f1d4894e689d9cbc415603"), looks := false }, kinds := [], alts := [], laidByText := true, laidKinds := [.data], laidTests := true, laidLooks := .later }
def ReductionIgnoresOwnStateCardSaid : Prop := Claim7.holds Tryd.pinned (.plain (OpenSpec.ofChange reductionIgnoresOwnStateSpec)) reductionIgnoresOwnStateCard

/-- THE TIED CARD OF 'pensionlaw21.ReductionTwoStates'. -/
def reductionTwoStatesCard : Claim7 := { stood := { row := reductionTwoStatesRow, standIns := [], harness := (true, "f03ffc7306dc8b8a4b7c72d8cf63ad08cf0c74adf4f1d4894e689d9cbc415603"), looks := false }, kinds := [], alts := [], laidByText := true, laidKinds := [.data], laidTests := true, laidLooks := .later }
def ReductionTwoStatesCardSaid : Prop := Claim7.holds Tryd.pinned (.plain (OpenSpec.ofChange reductionTwoStatesSpec)) reductionTwoStatesCard

/-- THE SECOND FORM's CARD OF 'pensionlaw21.ReductionValidAgrees'. -/
def reductionValidAgreesUptoCard : Claim7 := { stood := { row := reductionValidAgreesUptoRow, standIns := [], harness := (true, "f03ffc7306dc8b8a4b7c72d8cf63ad08cf0c74adf4f1d4894e689d9cbc415603"), looks := false }, kinds := [], alts := [], laidByText := true, laidKinds := [.data], laidTests := true, laidLooks := .later }
def ReductionValidAgreesUptoCardSaid : Prop := Claim7.holds Tryd.pinned (.plain (OpenSpec.upto reductionValidAgreesSpec)) reductionValidAgreesUptoCard

/-- THE SECOND FORM's CARD OF 'pensionlaw21.ReductionValidNeedsEachField'. -/
def reductionValidNeedsEachFieldUptoCard : Claim7 := { stood := { row := reductionValidNeedsEachFieldUptoRow, standIns := [], harness := (true, "f03ffc7306dc8b8a4b7c72d8cf63ad08cf0c74adf4f1d4894e689d9cbc415603"), looks := false }, kinds := [], alts := [], laidByText := true, laidKinds := [.data], laidTests := true, laidLooks := .later }
def ReductionValidNeedsEachFieldUptoCardSaid : Prop := Claim7.holds Tryd.pinned (.plain (OpenSpec.upto reductionValidNeedsEachFieldSpec)) reductionValidNeedsEachFieldUptoCard

/-- THE SECOND FORM's CARD OF 'pensionlaw21.ReductionReducersAgree'. -/
def reductionReducersAgreeUptoCard : Claim7 := { stood := { row := reductionReducersAgreeUptoRow, standIns := [], harness := (true, "f03ffc7306dc8b8a4b7c72d8cf63ad08cf0c74adf4f1d4894e689d9cbc415603"), looks := false }, kinds := [], alts := [], laidByText := true, laidKinds := [.data], laidTests := true, laidLooks := .later }
def ReductionReducersAgreeUptoCardSaid : Prop := Claim7.holds Tryd.pinned (.plain (OpenSpec.upto reductionReducersAgreeSpec)) reductionReducersAgreeUptoCard

/-- THE SECOND FORM's CARD OF 'pensionlaw21.ReductionReducersAreOthers'. -/
def reductionReducersAreOthersUptoCard : Claim7 := { stood := { row := reductionReducersAreOthersUptoRow, standIns := [], harness := (true, "f03ffc7306dc8b8a4b7c72d8cf63ad08cf0c74adf4f1d4894e689d9cbc415603"), looks := false }, kinds := [], alts := [], laidByText := true, laidKinds := [.data], laidTests := true, laidLooks := .later }
def ReductionReducersAreOthersUptoCardSaid : Prop := Claim7.holds Tryd.pinned (.plain (OpenSpec.upto reductionReducersAreOthersSpec)) reductionReducersAreOthersUptoCard

/-- THE SECOND FORM's CARD OF 'pensionlaw21.ReductionDeductionsAgree'. -/
def reductionDeductionsAgreeUptoCard : Claim7 := { stood := { row := reductionDeductionsAgreeUptoRow, standIns := [], harness := (true, "f03ffc7306dc8b8a4b7c72d8cf63ad08cf0c74adf4f1d4894e689d9cbc415603"), looks := false }, kinds := [], alts := [], laidByText := true, laidKinds := [.data], laidTests := true, laidLooks := .later }
def ReductionDeductionsAgreeUptoCardSaid : Prop := Claim7.holds Tryd.pinned (.plain (OpenSpec.upto reductionDeductionsAgreeSpec)) reductionDeductionsAgreeUptoCard

/-- THE SECOND FORM's CARD OF 'pensionlaw21.ReductionRejects'. -/
def reductionRejectsUptoCard : Claim7 := { stood := { row := reductionRejectsUptoRow, standIns := [], harness := (true, "f03ffc7306dc8b8a4b7c72d8cf63ad08cf0c74adf4f1d4894e689d9cbc415603"), looks := false }, kinds := [], alts := [], laidByText := true, laidKinds := [.data], laidTests := true, laidLooks := .later }
def ReductionRejectsUptoCardSaid : Prop := Claim7.holds Tryd.pinned (.plain (OpenSpec.upto reductionRejectsSpec)) reductionRejectsUptoCard

/-- THE SECOND FORM's CARD OF 'pensionlaw21.ReductionRejectsInvalidElements'. -/
def reductionRejectsInvalidElementsUptoCard : Claim7 := { stood := { row := reductionRejectsInvalidElementsUptoRow, standIns := [], harness := (true, "f03ffc7306dc8b8a4b7c72d8cf63ad08cf0c74adf4f1d4894e689d9cbc415603"), looks := false }, kinds := [], alts := [], laidByText := true, laidKinds := [.data], laidTests := true, laidLooks := .later }
def ReductionRejectsInvalidElementsUptoCardSaid : Prop := Claim7.holds Tryd.pinned (.plain (OpenSpec.upto reductionRejectsInvalidElementsSpec)) reductionRejectsInvalidElementsUptoCard

/-- THE SECOND FORM's CARD OF 'pensionlaw21.ReductionApplyAgrees'. -/
def reductionApplyAgreesUptoCard : Claim7 := { stood := { row := reductionApplyAgreesUptoRow, standIns := [], harness := (true, "f03ffc7306dc8b8a4b7c72d8cf63ad08cf0c74adf4f1d4894e689d9cbc415603"), looks := false }, kinds := [], alts := [], laidByText := true, laidKinds := [.data], laidTests := true, laidLooks := .later }
def ReductionApplyAgreesUptoCardSaid : Prop := Claim7.holds Tryd.pinned (.plain (OpenSpec.upto reductionApplyAgreesSpec)) reductionApplyAgreesUptoCard

/-- THE SECOND FORM's CARD OF 'pensionlaw21.ReductionNetIsBounded'. -/
def reductionNetIsBoundedUptoCard : Claim7 := { stood := { row := reductionNetIsBoundedUptoRow, standIns := [], harness := (true, "f03ffc7306dc8b8a4b7c72d8cf63ad08cf0c74adf4f1d4894e689d9cbc415603"), looks := false }, kinds := [], alts := [], laidByText := true, laidKinds := [.data], laidTests := true, laidLooks := .later }
def ReductionNetIsBoundedUptoCardSaid : Prop := Claim7.holds Tryd.pinned (.plain (OpenSpec.upto reductionNetIsBoundedSpec)) reductionNetIsBoundedUptoCard

/-- THE SECOND FORM's CARD OF 'pensionlaw21.ReductionAppliedOnce'. -/
def reductionAppliedOnceUptoCard : Claim7 := { stood := { row := reductionAppliedOnceUptoRow, standIns := [], harness := (true, "f03ffc7306dc8b8a4b7c72d8cf63ad08cf0c74adf4f1d4894e689d9cbc415603"), looks := false }, kinds := [], alts := [], laidByText := true, laidKinds := [.data], laidTests := true, laidLooks := .later }
def ReductionAppliedOnceUptoCardSaid : Prop := Claim7.holds Tryd.pinned (.plain (OpenSpec.upto reductionAppliedOnceSpec)) reductionAppliedOnceUptoCard

/-- THE SECOND FORM's CARD OF 'pensionlaw21.ReductionIgnoresOrder'. -/
def reductionIgnoresOrderUptoCard : Claim7 := { stood := { row := reductionIgnoresOrderUptoRow, standIns := [], harness := (true, "f03ffc7306dc8b8a4b7c72d8cf63ad08cf0c74adf4f1d4894e689d9cbc415603"), looks := false }, kinds := [], alts := [], laidByText := true, laidKinds := [.data], laidTests := true, laidLooks := .later }
def ReductionIgnoresOrderUptoCardSaid : Prop := Claim7.holds Tryd.pinned (.plain (OpenSpec.upto reductionIgnoresOrderSpec)) reductionIgnoresOrderUptoCard

/-- THE SECOND FORM's CARD OF 'pensionlaw21.ReductionWithoutCuts'. -/
def reductionWithoutCutsUptoCard : Claim7 := { stood := { row := reductionWithoutCutsUptoRow, standIns := [], harness := (true, "f03ffc7306dc8b8a4b7c72d8cf63ad08cf0c74adf4f1d4894e689d9cbc415603"), looks := false }, kinds := [], alts := [], laidByText := true, laidKinds := [.data], laidTests := true, laidLooks := .later }
def ReductionWithoutCutsUptoCardSaid : Prop := Claim7.holds Tryd.pinned (.plain (OpenSpec.upto reductionWithoutCutsSpec)) reductionWithoutCutsUptoCard

/-- THE SECOND FORM's CARD OF 'pensionlaw21.ReductionIsMonotone'. -/
def reductionIsMonotoneUptoCard : Claim7 := { stood := { row := reductionIsMonotoneUptoRow, standIns := [], harness := (true, "f03ffc7306dc8b8a4b7c72d8cf63ad08cf0c74adf4f1d4894e689d9cbc415603"), looks := false }, kinds := [], alts := [], laidByText := true, laidKinds := [.data], laidTests := true, laidLooks := .later }
def ReductionIsMonotoneUptoCardSaid : Prop := Claim7.holds Tryd.pinned (.plain (OpenSpec.upto reductionIsMonotoneSpec)) reductionIsMonotoneUptoCard

/-- THE SECOND FORM's CARD OF 'pensionlaw21.ReductionIgnoresOwnState'. -/
def reductionIgnoresOwnStateUptoCard : Claim7 := { stood := { row := reductionIgnoresOwnStateUptoRow, standIns := [], harness := (true, "f03ffc7306dc8b8a4b7c72d8cf63ad08cf0c74adf4f1d4894e689d9cbc415603"), looks := false }, kinds := [], alts := [], laidByText := true, laidKinds := [.data], laidTests := true, laidLooks := .later }
def ReductionIgnoresOwnStateUptoCardSaid : Prop := Claim7.holds Tryd.pinned (.plain (OpenSpec.upto reductionIgnoresOwnStateSpec)) reductionIgnoresOwnStateUptoCard

/-- THE SECOND FORM's CARD OF 'pensionlaw21.ReductionTwoStates'. -/
def reductionTwoStatesUptoCard : Claim7 := { stood := { row := reductionTwoStatesUptoRow, standIns := [], harness := (true, "f03ffc7306dc8b8a4b7c72d8cf63ad08cf0c74adf4f1d4894e689d9cbc415603"), looks := false }, kinds := [], alts := [], laidByText := true, laidKinds := [.data], laidTests := true, laidLooks := .later }
def ReductionTwoStatesUptoCardSaid : Prop := Claim7.holds Tryd.pinned (.plain (OpenSpec.upto reductionTwoStatesSpec)) reductionTwoStatesUptoCard
end Rows
end Go.Proofs.YthpknbflmcoanaaDoor
