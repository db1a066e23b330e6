/-
  No cell of these rows narrows 'for every input' (looked for: loops, veiled, ifaces, maps, wideKeys, modest, calm, conditions, laid).
  DERIVED. THE GIVEN ROWS OF THIS SEAT. 11 by the template 'for every input the law returns true; each argument reads behind the call as it read before'; 0 by the template 'total and deterministic' (their statements: YtnhbidagnomkpaaTotals.lean).
  GIVEN WITH THE SEED: the statements are not yours to turn. If you find one false, say at which input.
  Laid BY PROGRAM, IN A SANDBOX (cutbox-rows.mjs): the forced cells as the released guide's own fill.sh prints them over the translation 72a44d6ccb535fdb… (all of the seat's roots in one cut). By AI agents, Wed Nov 11 2026. No macro, syntax, notation, axiom, sorry.
-/
import Derived.Test.YtnhbidagnomkpaaChecked
import GoSem.Claim
import GoSem.ClaimJoined
import GoSem.ClaimMapViews
import Derived.JoinedTies
import Derived.KernelRfl
namespace Go.Proofs.Ytnhbidagnomkpaa
/- THE CELL 'sum', in the pinned program and in every row, IS THE sha256 OF THE DUMP (.gsa) THAT YtnhbidagnomkpaaProg.lean LOADS. Nothing in Lean hashes anything: it is a label: what it is worth is what the hold of that sum in a sandbox is worth. -/
noncomputable def Try.pinned : Pinned := { name := "ytnhbidagnomkpaa", sum := "72a44d6ccb535fdbccbf30350e9ff7d9fe24dfdbed387d59866e708b4a8c5af9", checked := Try.checked }
namespace Rows
def none {H : Type} : Left H := { results := [], args := [] }

/-- 'pensionlaw4.MoneyRounds': WHATEVER THE INPUT: true; the input reads as it did. -/
def moneyRoundsSpec : ChangeSpec := { name := "moneyRounds", fn := fun _ => fun
  | [d1, d2, d3] => { results := [.lit (.bool true)], args := [d1, d2, d3] }
  | _ => none }
def moneyRoundsRow : OpenClaim := { program := "ytnhbidagnomkpaa", sum := "72a44d6ccb535fdbccbf30350e9ff7d9fe24dfdbed387d59866e708b4a8c5af9", func := "pension/pensionlaw4.MoneyRounds", spec := "moneyRounds", named := ["math/bits.divideError", "math/bits.overflowError"], apart := false }
def MoneyRoundsSaid : Prop := moneyRoundsRow.holds Try.pinned (OpenSpec.ofChange moneyRoundsSpec)

/-- ITS FALSE NEIGHBOUR: 'it returns false'. Refute it at one input. -/
def moneyRoundsWrong : ChangeSpec := { name := "moneyRounds", fn := fun _ => fun
  | [d1, d2, d3] => { results := [.lit (.bool false)], args := [d1, d2, d3] }
  | _ => none }
def MoneyRoundsWrongFalsely : Prop := moneyRoundsRow.holds Try.pinned (OpenSpec.ofChange moneyRoundsWrong)

/-- 'pensionlaw4.MoneyMonotone': WHATEVER THE INPUT: true; the input reads as it did. -/
def moneyMonotoneSpec : ChangeSpec := { name := "moneyMonotone", fn := fun _ => fun
  | [d1, d2, d3, d4, d5] => { results := [.lit (.bool true)], args := [d1, d2, d3, d4, d5] }
  | _ => none }
def moneyMonotoneRow : OpenClaim := { program := "ytnhbidagnomkpaa", sum := "72a44d6ccb535fdbccbf30350e9ff7d9fe24dfdbed387d59866e708b4a8c5af9", func := "pension/pensionlaw4.MoneyMonotone", spec := "moneyMonotone", named := ["math/bits.divideError", "math/bits.overflowError"], apart := false }
def MoneyMonotoneSaid : Prop := moneyMonotoneRow.holds Try.pinned (OpenSpec.ofChange moneyMonotoneSpec)

/-- ITS FALSE NEIGHBOUR: 'it returns false'. Refute it at one input. -/
def moneyMonotoneWrong : ChangeSpec := { name := "moneyMonotone", fn := fun _ => fun
  | [d1, d2, d3, d4, d5] => { results := [.lit (.bool false)], args := [d1, d2, d3, d4, d5] }
  | _ => none }
def MoneyMonotoneWrongFalsely : Prop := moneyMonotoneRow.holds Try.pinned (OpenSpec.ofChange moneyMonotoneWrong)

/-- 'pensionlaw4.MoneySums': WHATEVER THE INPUT: true; the input reads as it did. -/
def moneySumsSpec : ChangeSpec := { name := "moneySums", fn := fun _ => fun
  | [d1, d2] => { results := [.lit (.bool true)], args := [d1, d2] }
  | _ => none }
def moneySumsRow : OpenClaim := { program := "ytnhbidagnomkpaa", sum := "72a44d6ccb535fdbccbf30350e9ff7d9fe24dfdbed387d59866e708b4a8c5af9", func := "pension/pensionlaw4.MoneySums", spec := "moneySums", named := ["math/bits.divideError", "math/bits.overflowError"], apart := false }
def MoneySumsSaid : Prop := moneySumsRow.holds Try.pinned (OpenSpec.ofChange moneySumsSpec)

/-- ITS FALSE NEIGHBOUR: 'it returns false'. Refute it at one input. -/
def moneySumsWrong : ChangeSpec := { name := "moneySums", fn := fun _ => fun
  | [d1, d2] => { results := [.lit (.bool false)], args := [d1, d2] }
  | _ => none }
def MoneySumsWrongFalsely : Prop := moneySumsRow.holds Try.pinned (OpenSpec.ofChange moneySumsWrong)

/-- 'pensionlaw4.MoneyShares': WHATEVER THE INPUT: true; the input reads as it did. -/
def moneySharesSpec : ChangeSpec := { name := "moneyShares", fn := fun _ => fun
  | [d1, d2, d3, d4, d5] => { results := [.lit (.bool true)], args := [d1, d2, d3, d4, d5] }
  | _ => none }
def moneySharesRow : OpenClaim := { program := "ytnhbidagnomkpaa", sum := "72a44d6ccb535fdbccbf30350e9ff7d9fe24dfdbed387d59866e708b4a8c5af9", func := "pension/pensionlaw4.MoneyShares", spec := "moneyShares", named := ["math/bits.divideError", "math/bits.overflowError"], apart := false }
def MoneySharesSaid : Prop := moneySharesRow.holds Try.pinned (OpenSpec.ofChange moneySharesSpec)

/-- ITS FALSE NEIGHBOUR: 'it returns false'. Refute it at one input. -/
def moneySharesWrong : ChangeSpec := { name := "moneyShares", fn := fun _ => fun
  | [d1, d2, d3, d4, d5] => { results := [.lit (.bool false)], args := [d1, d2, d3, d4, d5] }
  | _ => none }
def MoneySharesWrongFalsely : Prop := moneySharesRow.holds Try.pinned (OpenSpec.ofChange moneySharesWrong)

/-- 'pensionlaw4.MoneySplits': WHATEVER THE INPUT: true; the input reads as it did. -/
def moneySplitsSpec : ChangeSpec := { name := "moneySplits", fn := fun _ => fun
  | [d1, d2, d3, d4] => { results := [.lit (.bool true)], args := [d1, d2, d3, d4] }
  | _ => none }
def moneySplitsRow : OpenClaim := { program := "ytnhbidagnomkpaa", sum := "72a44d6ccb535fdbccbf30350e9ff7d9fe24dfdbed387d59866e708b4a8c5af9", func := "pension/pensionlaw4.MoneySplits", spec := "moneySplits", named := ["math/bits.divideError", "math/bits.overflowError"], apart := false }
def MoneySplitsSaid : Prop := moneySplitsRow.holds Try.pinned (OpenSpec.ofChange moneySplitsSpec)

/-- ITS FALSE NEIGHBOUR: 'it returns false'. Refute it at one input. -/
def moneySplitsWrong : ChangeSpec := { name := "moneySplits", fn := fun _ => fun
  | [d1, d2, d3, d4] => { results := [.lit (.bool false)], args := [d1, d2, d3, d4] }
  | _ => none }
def MoneySplitsWrongFalsely : Prop := moneySplitsRow.holds Try.pinned (OpenSpec.ofChange moneySplitsWrong)

/-- 'pensionlaw4.MoneyScales': WHATEVER THE INPUT: true; the input reads as it did. -/
def moneyScalesSpec : ChangeSpec := { name := "moneyScales", fn := fun _ => fun
  | [d1, d2, d3, d4] => { results := [.lit (.bool true)], args := [d1, d2, d3, d4] }
  | _ => none }
def moneyScalesRow : OpenClaim := { program := "ytnhbidagnomkpaa", sum := "72a44d6ccb535fdbccbf30350e9ff7d9fe24dfdbed387d59866e708b4a8c5af9", func := "pension/pensionlaw4.MoneyScales", spec := "moneyScales", named := ["math/bits.divideError", "math/bits.overflowError"], apart := false }
def MoneyScalesSaid : Prop := moneyScalesRow.holds Try.pinned (OpenSpec.ofChange moneyScalesSpec)

/-- ITS FALSE NEIGHBOUR: 'it returns false'. Refute it at one input. -/
def moneyScalesWrong : ChangeSpec := { name := "moneyScales", fn := fun _ => fun
  | [d1, d2, d3, d4] => { results := [.lit (.bool false)], args := [d1, d2, d3, d4] }
  | _ => none }
def MoneyScalesWrongFalsely : Prop := moneyScalesRow.holds Try.pinned (OpenSpec.ofChange moneyScalesWrong)

/-- 'pensionlaw4.MoneyNear': WHATEVER THE INPUT: true; the input reads as it did. -/
def moneyNearSpec : ChangeSpec := { name := "moneyNear", fn := fun _ => fun
  | [d1, d2, d3] => { results := [.lit (.bool true)], args := [d1, d2, d3] }
  | _ => none }
def moneyNearRow : OpenClaim := { program := "ytnhbidagnomkpaa", sum := "72a44d6ccb535fdbccbf30350e9ff7d9fe24dfdbed387d59866e708b4a8c5af9", func := "pension/pensionlaw4.MoneyNear", spec := "moneyNear", inPlace := ["math/bits.Add64", "math/bits.Sub64"], named := ["math/bits.divideError", "math/bits.overflowError"], apart := false }
def MoneyNearSaid : Prop := moneyNearRow.holds Try.pinned (OpenSpec.ofChange moneyNearSpec)

/-- ITS FALSE NEIGHBOUR: 'it returns false'. Refute it at one input. -/
def moneyNearWrong : ChangeSpec := { name := "moneyNear", fn := fun _ => fun
  | [d1, d2, d3] => { results := [.lit (.bool false)], args := [d1, d2, d3] }
  | _ => none }
def MoneyNearWrongFalsely : Prop := moneyNearRow.holds Try.pinned (OpenSpec.ofChange moneyNearWrong)

/-- 'pensionlaw4.MoneyRates': WHATEVER THE INPUT: true; the input reads as it did. -/
def moneyRatesSpec : ChangeSpec := { name := "moneyRates", fn := fun _ => fun
  | [d1, d2, d3, d4] => { results := [.lit (.bool true)], args := [d1, d2, d3, d4] }
  | _ => none }
def moneyRatesRow : OpenClaim := { program := "ytnhbidagnomkpaa", sum := "72a44d6ccb535fdbccbf30350e9ff7d9fe24dfdbed387d59866e708b4a8c5af9", func := "pension/pensionlaw4.MoneyRates", spec := "moneyRates", named := ["math/bits.divideError", "math/bits.overflowError"], apart := false }
def MoneyRatesSaid : Prop := moneyRatesRow.holds Try.pinned (OpenSpec.ofChange moneyRatesSpec)

/-- ITS FALSE NEIGHBOUR: 'it returns false'. Refute it at one input. -/
def moneyRatesWrong : ChangeSpec := { name := "moneyRates", fn := fun _ => fun
  | [d1, d2, d3, d4] => { results := [.lit (.bool false)], args := [d1, d2, d3, d4] }
  | _ => none }
def MoneyRatesWrongFalsely : Prop := moneyRatesRow.holds Try.pinned (OpenSpec.ofChange moneyRatesWrong)

/-- 'pensionlaw4.MoneyConverts': WHATEVER THE INPUT: true; the input reads as it did. -/
def moneyConvertsSpec : ChangeSpec := { name := "moneyConverts", fn := fun _ => fun
  | [d1, d2, d3, d4, d5, d6, d7] => { results := [.lit (.bool true)], args := [d1, d2, d3, d4, d5, d6, d7] }
  | _ => none }
def moneyConvertsRow : OpenClaim := { program := "ytnhbidagnomkpaa", sum := "72a44d6ccb535fdbccbf30350e9ff7d9fe24dfdbed387d59866e708b4a8c5af9", func := "pension/pensionlaw4.MoneyConverts", spec := "moneyConverts", named := ["math/bits.divideError", "math/bits.overflowError"], apart := false }
def MoneyConvertsSaid : Prop := moneyConvertsRow.holds Try.pinned (OpenSpec.ofChange moneyConvertsSpec)

/-- ITS FALSE NEIGHBOUR: 'it returns false'. Refute it at one input. -/
def moneyConvertsWrong : ChangeSpec := { name := "moneyConverts", fn := fun _ => fun
  | [d1, d2, d3, d4, d5, d6, d7] => { results := [.lit (.bool false)], args := [d1, d2, d3, d4, d5, d6, d7] }
  | _ => none }
def MoneyConvertsWrongFalsely : Prop := moneyConvertsRow.holds Try.pinned (OpenSpec.ofChange moneyConvertsWrong)

/-- 'pensionlaw4.MoneyBack': WHATEVER THE INPUT: true; the input reads as it did. -/
def moneyBackSpec : ChangeSpec := { name := "moneyBack", fn := fun _ => fun
  | [d1, d2, d3, d4, d5, d6] => { results := [.lit (.bool true)], args := [d1, d2, d3, d4, d5, d6] }
  | _ => none }
def moneyBackRow : OpenClaim := { program := "ytnhbidagnomkpaa", sum := "72a44d6ccb535fdbccbf30350e9ff7d9fe24dfdbed387d59866e708b4a8c5af9", func := "pension/pensionlaw4.MoneyBack", spec := "moneyBack", named := ["math/bits.divideError", "math/bits.overflowError"], apart := false }
def MoneyBackSaid : Prop := moneyBackRow.holds Try.pinned (OpenSpec.ofChange moneyBackSpec)

/-- ITS FALSE NEIGHBOUR: 'it returns false'. Refute it at one input. -/
def moneyBackWrong : ChangeSpec := { name := "moneyBack", fn := fun _ => fun
  | [d1, d2, d3, d4, d5, d6] => { results := [.lit (.bool false)], args := [d1, d2, d3, d4, d5, d6] }
  | _ => none }
def MoneyBackWrongFalsely : Prop := moneyBackRow.holds Try.pinned (OpenSpec.ofChange moneyBackWrong)

/-- 'pensionlaw4.MoneyOrder': WHATEVER THE INPUT: true; the input reads as it did. -/
def moneyOrderSpec : ChangeSpec := { name := "moneyOrder", fn := fun _ => fun
  | [d1, d2, d3, d4, d5, d6, d7, d8] => { results := [.lit (.bool true)], args := [d1, d2, d3, d4, d5, d6, d7, d8] }
  | _ => none }
def moneyOrderRow : OpenClaim := { program := "ytnhbidagnomkpaa", sum := "72a44d6ccb535fdbccbf30350e9ff7d9fe24dfdbed387d59866e708b4a8c5af9", func := "pension/pensionlaw4.MoneyOrder", spec := "moneyOrder", named := ["math/bits.divideError", "math/bits.overflowError"], apart := false }
def MoneyOrderSaid : Prop := moneyOrderRow.holds Try.pinned (OpenSpec.ofChange moneyOrderSpec)

/-- ITS FALSE NEIGHBOUR: 'it returns false'. Refute it at one input. -/
def moneyOrderWrong : ChangeSpec := { name := "moneyOrder", fn := fun _ => fun
  | [d1, d2, d3, d4, d5, d6, d7, d8] => { results := [.lit (.bool false)], args := [d1, d2, d3, d4, d5, d6, d7, d8] }
  | _ => none }
def MoneyOrderWrongFalsely : Prop := moneyOrderRow.holds Try.pinned (OpenSpec.ofChange moneyOrderWrong)

/- THE SECOND FORM. 'bulk': how many values and letters a reading holds, each counted each time it is reached (what is shared counts as often as it is met; a slice's spare places count too). A statement '..UptoSaid' is the law's where the arguments, and the package variables that the reading takes, are together of bulk at most 1048576: NARROWER than '..Said'. Prove '..Said' where nothing that the law and all that it calls make is longer than what came in: it says more and counts as full. Else prove '..UptoSaid'. A law counts once. -/
mutual
def uptoBulk {H : Type} : DataW H → Nat
  | .lit (.string bytes) => bytes.length + 1
  | .lit _ => 1
  | .nil => 1
  | .ptr d => uptoBulk d + 1
  | .slice elems spare => uptoBulkAll elems + uptoBulkAll spare + 1
  | .agg parts => uptoBulkAll parts + 1
  | .iface _ d => uptoBulk d + 1
  | .map entries => uptoBulkEntries entries + 1
  | .held _ => 1
def uptoBulkAll {H : Type} : List (DataW H) → Nat
  | [] => 0
  | d :: r => uptoBulk d + uptoBulkAll r
def uptoBulkEntries {H : Type} : List (Lit × DataW H) → Nat
  | [] => 0
  | x :: r => uptoBulkEntry x + uptoBulkEntries r
def uptoBulkEntry {H : Type} : Lit × DataW H → Nat
  | (.string bytes, d) => bytes.length + uptoBulk d + 1
  | (_, d) => uptoBulk d + 1
 end
def uptoSmall : (H : Type) → List (DataW H) → Bool := fun _ ds => decide (uptoBulkAll ds ≤ 1048576)
def OpenSpec.upto (s : _root_.Go.ChangeSpec) : _root_.Go.OpenSpec := { _root_.Go.OpenSpec.ofChange s with cond := some uptoSmall }

/-- 'pensionlaw4.MoneyRounds', WHERE WHAT IT READS IS OF BULK AT MOST 1048576: true; the input reads as it did. -/
def moneyRoundsUptoRow : OpenClaim := { program := "ytnhbidagnomkpaa", sum := "72a44d6ccb535fdbccbf30350e9ff7d9fe24dfdbed387d59866e708b4a8c5af9", func := "pension/pensionlaw4.MoneyRounds", spec := "moneyRounds", named := ["math/bits.divideError", "math/bits.overflowError"], apart := false, narrowed := true }
def MoneyRoundsUptoSaid : Prop := moneyRoundsUptoRow.holds Try.pinned (OpenSpec.upto moneyRoundsSpec)

/-- 'pensionlaw4.MoneyMonotone', WHERE WHAT IT READS IS OF BULK AT MOST 1048576: true; the input reads as it did. -/
def moneyMonotoneUptoRow : OpenClaim := { program := "ytnhbidagnomkpaa", sum := "72a44d6ccb535fdbccbf30350e9ff7d9fe24dfdbed387d59866e708b4a8c5af9", func := "pension/pensionlaw4.MoneyMonotone", spec := "moneyMonotone", named := ["math/bits.divideError", "math/bits.overflowError"], apart := false, narrowed := true }
def MoneyMonotoneUptoSaid : Prop := moneyMonotoneUptoRow.holds Try.pinned (OpenSpec.upto moneyMonotoneSpec)

/-- 'pensionlaw4.MoneySums', WHERE WHAT IT READS IS OF BULK AT MOST 1048576: true; the input reads as it did. -/
def moneySumsUptoRow : OpenClaim := { program := "ytnhbidagnomkpaa", sum := "72a44d6ccb535fdbccbf30350e9ff7d9fe24dfdbed387d59866e708b4a8c5af9", func := "pension/pensionlaw4.MoneySums", spec := "moneySums", named := ["math/bits.divideError", "math/bits.overflowError"], apart := false, narrowed := true }
def MoneySumsUptoSaid : Prop := moneySumsUptoRow.holds Try.pinned (OpenSpec.upto moneySumsSpec)

/-- 'pensionlaw4.MoneyShares', WHERE WHAT IT READS IS OF BULK AT MOST 1048576: true; the input reads as it did. -/
def moneySharesUptoRow : OpenClaim := { program := "ytnhbidagnomkpaa", sum := "72a44d6ccb535fdbccbf30350e9ff7d9fe24dfdbed387d59866e708b4a8c5af9", func := "pension/pensionlaw4.MoneyShares", spec := "moneyShares", named := ["math/bits.divideError", "math/bits.overflowError"], apart := false, narrowed := true }
def MoneySharesUptoSaid : Prop := moneySharesUptoRow.holds Try.pinned (OpenSpec.upto moneySharesSpec)

/-- 'pensionlaw4.MoneySplits', WHERE WHAT IT READS IS OF BULK AT MOST 1048576: true; the input reads as it did. -/
def moneySplitsUptoRow : OpenClaim := { program := "ytnhbidagnomkpaa", sum := "72a44d6ccb535fdbccbf30350e9ff7d9fe24dfdbed387d59866e708b4a8c5af9", func := "pension/pensionlaw4.MoneySplits", spec := "moneySplits", named := ["math/bits.divideError", "math/bits.overflowError"], apart := false, narrowed := true }
def MoneySplitsUptoSaid : Prop := moneySplitsUptoRow.holds Try.pinned (OpenSpec.upto moneySplitsSpec)

/-- 'pensionlaw4.MoneyScales', WHERE WHAT IT READS IS OF BULK AT MOST 1048576: true; the input reads as it did. -/
def moneyScalesUptoRow : OpenClaim := { program := "ytnhbidagnomkpaa", sum := "72a44d6ccb535fdbccbf30350e9ff7d9fe24dfdbed387d59866e708b4a8c5af9", func := "pension/pensionlaw4.MoneyScales", spec := "moneyScales", named := ["math/bits.divideError", "math/bits.overflowError"], apart := false, narrowed := true }
def MoneyScalesUptoSaid : Prop := moneyScalesUptoRow.holds Try.pinned (OpenSpec.upto moneyScalesSpec)

/-- 'pensionlaw4.MoneyNear', WHERE WHAT IT READS IS OF BULK AT MOST 1048576: true; the input reads as it did. -/
def moneyNearUptoRow : OpenClaim := { program := "ytnhbidagnomkpaa", sum := "72a44d6ccb535fdbccbf30350e9ff7d9fe24dfdbed387d59866e708b4a8c5af9", func := "pension/pensionlaw4.MoneyNear", spec := "moneyNear", inPlace := ["math/bits.Add64", "math/bits.Sub64"], named := ["math/bits.divideError", "math/bits.overflowError"], apart := false, narrowed := true }
def MoneyNearUptoSaid : Prop := moneyNearUptoRow.holds Try.pinned (OpenSpec.upto moneyNearSpec)

/-- 'pensionlaw4.MoneyRates', WHERE WHAT IT READS IS OF BULK AT MOST 1048576: true; the input reads as it did. -/
def moneyRatesUptoRow : OpenClaim := { program := "ytnhbidagnomkpaa", sum := "72a44d6ccb535fdbccbf30350e9ff7d9fe24dfdbed387d59866e708b4a8c5af9", func := "pension/pensionlaw4.MoneyRates", spec := "moneyRates", named := ["math/bits.divideError", "math/bits.overflowError"], apart := false, narrowed := true }
def MoneyRatesUptoSaid : Prop := moneyRatesUptoRow.holds Try.pinned (OpenSpec.upto moneyRatesSpec)

/-- 'pensionlaw4.MoneyConverts', WHERE WHAT IT READS IS OF BULK AT MOST 1048576: true; the input reads as it did. -/
def moneyConvertsUptoRow : OpenClaim := { program := "ytnhbidagnomkpaa", sum := "72a44d6ccb535fdbccbf30350e9ff7d9fe24dfdbed387d59866e708b4a8c5af9", func := "pension/pensionlaw4.MoneyConverts", spec := "moneyConverts", named := ["math/bits.divideError", "math/bits.overflowError"], apart := false, narrowed := true }
def MoneyConvertsUptoSaid : Prop := moneyConvertsUptoRow.holds Try.pinned (OpenSpec.upto moneyConvertsSpec)

/-- 'pensionlaw4.MoneyBack', WHERE WHAT IT READS IS OF BULK AT MOST 1048576: true; the input reads as it did. -/
def moneyBackUptoRow : OpenClaim := { program := "ytnhbidagnomkpaa", sum := "72a44d6ccb535fdbccbf30350e9ff7d9fe24dfdbed387d59866e708b4a8c5af9", func := "pension/pensionlaw4.MoneyBack", spec := "moneyBack", named := ["math/bits.divideError", "math/bits.overflowError"], apart := false, narrowed := true }
def MoneyBackUptoSaid : Prop := moneyBackUptoRow.holds Try.pinned (OpenSpec.upto moneyBackSpec)

/-- 'pensionlaw4.MoneyOrder', WHERE WHAT IT READS IS OF BULK AT MOST 1048576: true; the input reads as it did. -/
def moneyOrderUptoRow : OpenClaim := { program := "ytnhbidagnomkpaa", sum := "72a44d6ccb535fdbccbf30350e9ff7d9fe24dfdbed387d59866e708b4a8c5af9", func := "pension/pensionlaw4.MoneyOrder", spec := "moneyOrder", named := ["math/bits.divideError", "math/bits.overflowError"], apart := false, narrowed := true }
def MoneyOrderUptoSaid : Prop := moneyOrderUptoRow.holds Try.pinned (OpenSpec.upto moneyOrderSpec)

end Rows
end Go.Proofs.Ytnhbidagnomkpaa
