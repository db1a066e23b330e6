/-
  No cell of these rows narrows 'for every input' (looked for: loops, veiled, ifaces, maps, wideKeys, modest, calm, conditions, laid).
  DERIVED. THE GIVEN ROWS OF THIS SEAT. 8 by the template 'for every input the law returns true; each argument reads behind the call as it read before'; 0 by the template 'total and deterministic' (their statements: YtaifacnpnhcdcaaTotals.lean).
  GIVEN WITH THE SEED: the statements are not yours to turn. If you find one false, say at which input.
  Laid BY PROGRAM, IN A SANDBOX (cutbox-rows.mjs): the forced cells as the released guide's own fill.sh prints them over the translation 170ce4abef04c10f… (all of the seat's roots in one cut). By AI agents, Wed Nov 11 2026. No macro, syntax, notation, axiom, sorry.
-/
import Derived.Test.YtaifacnpnhcdcaaChecked
import GoSem.Claim
import GoSem.ClaimJoined
import GoSem.ClaimMapViews
import Derived.JoinedTies
import Derived.KernelRfl
namespace Go.Proofs.Ytaifacnpnhcdcaa
/- THE CELL 'sum', in the pinned program and in every row, IS THE sha256 OF THE DUMP (.gsa) THAT YtaifacnpnhcdcaaProg.lean LOADS. Nothing in Lean hashes anything: it is a label: what it is worth is what the hold of that sum in a sandbox is worth. -/
noncomputable def Try.pinned : Pinned := { name := "ytaifacnpnhcdcaa", sum := "170ce4abef04c10f0574383abf7795fd1ea35b2b37b7e0592b3ea393ef8cdaaa", checked := Try.checked }
namespace Rows
def none {H : Type} : Left H := { results := [], args := [] }

/-- 'pensionlaw29.RecoveryKeepsTheMinimum': WHATEVER THE INPUT: true; the input reads as it did. -/
def recoveryKeepsTheMinimumSpec : ChangeSpec := { name := "recoveryKeepsTheMinimum", fn := fun _ => fun
  | [d1, d2] => { results := [.lit (.bool true)], args := [d1, d2] }
  | _ => none }
def recoveryKeepsTheMinimumRow : OpenClaim := { program := "ytaifacnpnhcdcaa", sum := "170ce4abef04c10f0574383abf7795fd1ea35b2b37b7e0592b3ea393ef8cdaaa", func := "pension/pensionlaw29.RecoveryKeepsTheMinimum", spec := "recoveryKeepsTheMinimum", unfollowed := true, recurses := true, named := ["math/bits.divideError", "math/bits.overflowError"], apart := false }
def RecoveryKeepsTheMinimumSaid : Prop := recoveryKeepsTheMinimumRow.holds Try.pinned (OpenSpec.ofChange recoveryKeepsTheMinimumSpec)

/-- ITS FALSE NEIGHBOUR: 'it returns false'. Refute it at one input. -/
def recoveryKeepsTheMinimumWrong : ChangeSpec := { name := "recoveryKeepsTheMinimum", fn := fun _ => fun
  | [d1, d2] => { results := [.lit (.bool false)], args := [d1, d2] }
  | _ => none }
def RecoveryKeepsTheMinimumWrongFalsely : Prop := recoveryKeepsTheMinimumRow.holds Try.pinned (OpenSpec.ofChange recoveryKeepsTheMinimumWrong)

/-- 'pensionlaw29.RecoveryConserves': WHATEVER THE INPUT: true; the input reads as it did. -/
def recoveryConservesSpec : ChangeSpec := { name := "recoveryConserves", fn := fun _ => fun
  | [d1, d2] => { results := [.lit (.bool true)], args := [d1, d2] }
  | _ => none }
def recoveryConservesRow : OpenClaim := { program := "ytaifacnpnhcdcaa", sum := "170ce4abef04c10f0574383abf7795fd1ea35b2b37b7e0592b3ea393ef8cdaaa", func := "pension/pensionlaw29.RecoveryConserves", spec := "recoveryConserves", unfollowed := true, recurses := true, named := ["math/bits.divideError", "math/bits.overflowError"], apart := false }
def RecoveryConservesSaid : Prop := recoveryConservesRow.holds Try.pinned (OpenSpec.ofChange recoveryConservesSpec)

/-- ITS FALSE NEIGHBOUR: 'it returns false'. Refute it at one input. -/
def recoveryConservesWrong : ChangeSpec := { name := "recoveryConserves", fn := fun _ => fun
  | [d1, d2] => { results := [.lit (.bool false)], args := [d1, d2] }
  | _ => none }
def RecoveryConservesWrongFalsely : Prop := recoveryConservesRow.holds Try.pinned (OpenSpec.ofChange recoveryConservesWrong)

/-- 'pensionlaw29.RecoveryTakesMonths': WHATEVER THE INPUT: true; the input reads as it did. -/
def recoveryTakesMonthsSpec : ChangeSpec := { name := "recoveryTakesMonths", fn := fun _ => fun
  | [d1, d2] => { results := [.lit (.bool true)], args := [d1, d2] }
  | _ => none }
def recoveryTakesMonthsRow : OpenClaim := { program := "ytaifacnpnhcdcaa", sum := "170ce4abef04c10f0574383abf7795fd1ea35b2b37b7e0592b3ea393ef8cdaaa", func := "pension/pensionlaw29.RecoveryTakesMonths", spec := "recoveryTakesMonths", unfollowed := true, recurses := true, named := ["math/bits.divideError", "math/bits.overflowError"], apart := false }
def RecoveryTakesMonthsSaid : Prop := recoveryTakesMonthsRow.holds Try.pinned (OpenSpec.ofChange recoveryTakesMonthsSpec)

/-- ITS FALSE NEIGHBOUR: 'it returns false'. Refute it at one input. -/
def recoveryTakesMonthsWrong : ChangeSpec := { name := "recoveryTakesMonths", fn := fun _ => fun
  | [d1, d2] => { results := [.lit (.bool false)], args := [d1, d2] }
  | _ => none }
def RecoveryTakesMonthsWrongFalsely : Prop := recoveryTakesMonthsRow.holds Try.pinned (OpenSpec.ofChange recoveryTakesMonthsWrong)

/-- 'pensionlaw29.RecoveryOffsetsAgree': WHATEVER THE INPUT: true; the input reads as it did. -/
def recoveryOffsetsAgreeSpec : ChangeSpec := { name := "recoveryOffsetsAgree", fn := fun _ => fun
  | [d1, d2, d3, d4] => { results := [.lit (.bool true)], args := [d1, d2, d3, d4] }
  | _ => none }
def recoveryOffsetsAgreeRow : OpenClaim := { program := "ytaifacnpnhcdcaa", sum := "170ce4abef04c10f0574383abf7795fd1ea35b2b37b7e0592b3ea393ef8cdaaa", func := "pension/pensionlaw29.RecoveryOffsetsAgree", spec := "recoveryOffsetsAgree", unfollowed := true, recurses := true, named := ["math/bits.divideError", "math/bits.overflowError"], apart := false }
def RecoveryOffsetsAgreeSaid : Prop := recoveryOffsetsAgreeRow.holds Try.pinned (OpenSpec.ofChange recoveryOffsetsAgreeSpec)

/-- ITS FALSE NEIGHBOUR: 'it returns false'. Refute it at one input. -/
def recoveryOffsetsAgreeWrong : ChangeSpec := { name := "recoveryOffsetsAgree", fn := fun _ => fun
  | [d1, d2, d3, d4] => { results := [.lit (.bool false)], args := [d1, d2, d3, d4] }
  | _ => none }
def RecoveryOffsetsAgreeWrongFalsely : Prop := recoveryOffsetsAgreeRow.holds Try.pinned (OpenSpec.ofChange recoveryOffsetsAgreeWrong)

/-- 'pensionlaw29.RecoveryOffsetsReject': WHATEVER THE INPUT: true; the input reads as it did. -/
def recoveryOffsetsRejectSpec : ChangeSpec := { name := "recoveryOffsetsReject", fn := fun _ => fun
  | [d1, d2, d3, d4] => { results := [.lit (.bool true)], args := [d1, d2, d3, d4] }
  | _ => none }
def recoveryOffsetsRejectRow : OpenClaim := { program := "ytaifacnpnhcdcaa", sum := "170ce4abef04c10f0574383abf7795fd1ea35b2b37b7e0592b3ea393ef8cdaaa", func := "pension/pensionlaw29.RecoveryOffsetsReject", spec := "recoveryOffsetsReject", unfollowed := true, recurses := true, named := ["math/bits.divideError", "math/bits.overflowError"], apart := false }
def RecoveryOffsetsRejectSaid : Prop := recoveryOffsetsRejectRow.holds Try.pinned (OpenSpec.ofChange recoveryOffsetsRejectSpec)

/-- ITS FALSE NEIGHBOUR: 'it returns false'. Refute it at one input. -/
def recoveryOffsetsRejectWrong : ChangeSpec := { name := "recoveryOffsetsReject", fn := fun _ => fun
  | [d1, d2, d3, d4] => { results := [.lit (.bool false)], args := [d1, d2, d3, d4] }
  | _ => none }
def RecoveryOffsetsRejectWrongFalsely : Prop := recoveryOffsetsRejectRow.holds Try.pinned (OpenSpec.ofChange recoveryOffsetsRejectWrong)

/-- 'pensionlaw29.RecoveryOffsetsAreBounded': WHATEVER THE INPUT: true; the input reads as it did. -/
def recoveryOffsetsAreBoundedSpec : ChangeSpec := { name := "recoveryOffsetsAreBounded", fn := fun _ => fun
  | [d1, d2, d3, d4] => { results := [.lit (.bool true)], args := [d1, d2, d3, d4] }
  | _ => none }
def recoveryOffsetsAreBoundedRow : OpenClaim := { program := "ytaifacnpnhcdcaa", sum := "170ce4abef04c10f0574383abf7795fd1ea35b2b37b7e0592b3ea393ef8cdaaa", func := "pension/pensionlaw29.RecoveryOffsetsAreBounded", spec := "recoveryOffsetsAreBounded", unfollowed := true, recurses := true, named := ["math/bits.divideError", "math/bits.overflowError"], apart := false }
def RecoveryOffsetsAreBoundedSaid : Prop := recoveryOffsetsAreBoundedRow.holds Try.pinned (OpenSpec.ofChange recoveryOffsetsAreBoundedSpec)

/-- ITS FALSE NEIGHBOUR: 'it returns false'. Refute it at one input. -/
def recoveryOffsetsAreBoundedWrong : ChangeSpec := { name := "recoveryOffsetsAreBounded", fn := fun _ => fun
  | [d1, d2, d3, d4] => { results := [.lit (.bool false)], args := [d1, d2, d3, d4] }
  | _ => none }
def RecoveryOffsetsAreBoundedWrongFalsely : Prop := recoveryOffsetsAreBoundedRow.holds Try.pinned (OpenSpec.ofChange recoveryOffsetsAreBoundedWrong)

/-- 'pensionlaw29.RecoveryOffsetsInOneCurrency': WHATEVER THE INPUT: true; the input reads as it did. -/
def recoveryOffsetsInOneCurrencySpec : ChangeSpec := { name := "recoveryOffsetsInOneCurrency", fn := fun _ => fun
  | [d1, d2] => { results := [.lit (.bool true)], args := [d1, d2] }
  | _ => none }
def recoveryOffsetsInOneCurrencyRow : OpenClaim := { program := "ytaifacnpnhcdcaa", sum := "170ce4abef04c10f0574383abf7795fd1ea35b2b37b7e0592b3ea393ef8cdaaa", func := "pension/pensionlaw29.RecoveryOffsetsInOneCurrency", spec := "recoveryOffsetsInOneCurrency", unfollowed := true, recurses := true, named := ["math/bits.divideError", "math/bits.overflowError"], apart := false }
def RecoveryOffsetsInOneCurrencySaid : Prop := recoveryOffsetsInOneCurrencyRow.holds Try.pinned (OpenSpec.ofChange recoveryOffsetsInOneCurrencySpec)

/-- ITS FALSE NEIGHBOUR: 'it returns false'. Refute it at one input. -/
def recoveryOffsetsInOneCurrencyWrong : ChangeSpec := { name := "recoveryOffsetsInOneCurrency", fn := fun _ => fun
  | [d1, d2] => { results := [.lit (.bool false)], args := [d1, d2] }
  | _ => none }
def RecoveryOffsetsInOneCurrencyWrongFalsely : Prop := recoveryOffsetsInOneCurrencyRow.holds Try.pinned (OpenSpec.ofChange recoveryOffsetsInOneCurrencyWrong)

/-- 'pensionlaw29.RecoveryOffsetsIgnoreOrder': WHATEVER THE INPUT: true; the input reads as it did. -/
def recoveryOffsetsIgnoreOrderSpec : ChangeSpec := { name := "recoveryOffsetsIgnoreOrder", fn := fun _ => fun
  | [d1, d2, d3, d4, d5] => { results := [.lit (.bool true)], args := [d1, d2, d3, d4, d5] }
  | _ => none }
def recoveryOffsetsIgnoreOrderRow : OpenClaim := { program := "ytaifacnpnhcdcaa", sum := "170ce4abef04c10f0574383abf7795fd1ea35b2b37b7e0592b3ea393ef8cdaaa", func := "pension/pensionlaw29.RecoveryOffsetsIgnoreOrder", spec := "recoveryOffsetsIgnoreOrder", unfollowed := true, recurses := true, named := ["math/bits.divideError", "math/bits.overflowError"], apart := false }
def RecoveryOffsetsIgnoreOrderSaid : Prop := recoveryOffsetsIgnoreOrderRow.holds Try.pinned (OpenSpec.ofChange recoveryOffsetsIgnoreOrderSpec)

/-- ITS FALSE NEIGHBOUR: 'it returns false'. Refute it at one input. -/
def recoveryOffsetsIgnoreOrderWrong : ChangeSpec := { name := "recoveryOffsetsIgnoreOrder", fn := fun _ => fun
  | [d1, d2, d3, d4, d5] => { results := [.lit (.bool false)], args := [d1, d2, d3, d4, d5] }
  | _ => none }
def RecoveryOffsetsIgnoreOrderWrongFalsely : Prop := recoveryOffsetsIgnoreOrderRow.holds Try.pinned (OpenSpec.ofChange recoveryOffsetsIgnoreOrderWrong)

/- THE SECOND FORM. 'bulk': how many values and letters a reading holds, each counted each time it is reached (what is shared counts as often as it is met; a slice's spare places count too). A statement '..UptoSaid' is the law's where the arguments, and the package variables that the reading takes, are together of bulk at most 1048576: NARROWER than '..Said'. Prove '..Said' where nothing that the law and all that it calls make is longer than what came in: it says more and counts as full. Else prove '..UptoSaid'. A law counts once. -/
mutual
def uptoBulk {H : Type} : DataW H → Nat
  | .lit (.string bytes) => bytes.length + 1
  | .lit _ => 1
  | .nil => 1
  | .ptr d => uptoBulk d + 1
  | .slice elems spare => uptoBulkAll elems + uptoBulkAll spare + 1
  | .agg parts => uptoBulkAll parts + 1
  | .iface _ d => uptoBulk d + 1
  | .map entries => uptoBulkEntries entries + 1
  | .held _ => 1
def uptoBulkAll {H : Type} : List (DataW H) → Nat
  | [] => 0
  | d :: r => uptoBulk d + uptoBulkAll r
def uptoBulkEntries {H : Type} : List (Lit × DataW H) → Nat
  | [] => 0
  | x :: r => uptoBulkEntry x + uptoBulkEntries r
def uptoBulkEntry {H : Type} : Lit × DataW H → Nat
  | (.string bytes, d) => bytes.length + uptoBulk d + 1
  | (_, d) => uptoBulk d + 1
 end
def uptoSmall : (H : Type) → List (DataW H) → Bool := fun _ ds => decide (uptoBulkAll ds ≤ 1048576)
def OpenSpec.upto (s : _root_.Go.ChangeSpec) : _root_.Go.OpenSpec := { _root_.Go.OpenSpec.ofChange s with cond := some uptoSmall }

/-- 'pensionlaw29.RecoveryKeepsTheMinimum', WHERE WHAT IT READS IS OF BULK AT MOST 1048576: true; the input reads as it did. -/
def recoveryKeepsTheMinimumUptoRow : OpenClaim := { program := "ytaifacnpnhcdcaa", sum := "170ce4abef04c10f0574383abf7795fd1ea35b2b37b7e0592b3ea393ef8cdaaa", func := "pension/pensionlaw29.RecoveryKeepsTheMinimum", spec := "recoveryKeepsTheMinimum", unfollowed := true, recurses := true, named := ["math/bits.divideError", "math/bits.overflowError"], apart := false, narrowed := true }
def RecoveryKeepsTheMinimumUptoSaid : Prop := recoveryKeepsTheMinimumUptoRow.holds Try.pinned (OpenSpec.upto recoveryKeepsTheMinimumSpec)

/-- 'pensionlaw29.RecoveryConserves', WHERE WHAT IT READS IS OF BULK AT MOST 1048576: true; the input reads as it did. -/
def recoveryConservesUptoRow : OpenClaim := { program := "ytaifacnpnhcdcaa", sum := "170ce4abef04c10f0574383abf7795fd1ea35b2b37b7e0592b3ea393ef8cdaaa", func := "pension/pensionlaw29.RecoveryConserves", spec := "recoveryConserves", unfollowed := true, recurses := true, named := ["math/bits.divideError", "math/bits.overflowError"], apart := false, narrowed := true }
def RecoveryConservesUptoSaid : Prop := recoveryConservesUptoRow.holds Try.pinned (OpenSpec.upto recoveryConservesSpec)

/-- 'pensionlaw29.RecoveryTakesMonths', WHERE WHAT IT READS IS OF BULK AT MOST 1048576: true; the input reads as it did. -/
def recoveryTakesMonthsUptoRow : OpenClaim := { program := "ytaifacnpnhcdcaa", sum := "170ce4abef04c10f0574383abf7795fd1ea35b2b37b7e0592b3ea393ef8cdaaa", func := "pension/pensionlaw29.RecoveryTakesMonths", spec := "recoveryTakesMonths", unfollowed := true, recurses := true, named := ["math/bits.divideError", "math/bits.overflowError"], apart := false, narrowed := true }
def RecoveryTakesMonthsUptoSaid : Prop := recoveryTakesMonthsUptoRow.holds Try.pinned (OpenSpec.upto recoveryTakesMonthsSpec)

/-- 'pensionlaw29.RecoveryOffsetsAgree', WHERE WHAT IT READS IS OF BULK AT MOST 1048576: true; the input reads as it did. -/
def recoveryOffsetsAgreeUptoRow : OpenClaim := { program := "ytaifacnpnhcdcaa", sum := "170ce4abef04c10f0574383abf7795fd1ea35b2b37b7e0592b3ea393ef8cdaaa", func := "pension/pensionlaw29.RecoveryOffsetsAgree", spec := "recoveryOffsetsAgree", unfollowed := true, recurses := true, named := ["math/bits.divideError", "math/bits.overflowError"], apart := false, narrowed := true }
def RecoveryOffsetsAgreeUptoSaid : Prop := recoveryOffsetsAgreeUptoRow.holds Try.pinned (OpenSpec.upto recoveryOffsetsAgreeSpec)

/-- 'pensionlaw29.RecoveryOffsetsReject', WHERE WHAT IT READS IS OF BULK AT MOST 1048576: true; the input reads as it did. -/
def recoveryOffsetsRejectUptoRow : OpenClaim := { program := "ytaifacnpnhcdcaa", sum := "170ce4abef04c10f0574383abf7795fd1ea35b2b37b7e0592b3ea393ef8cdaaa", func := "pension/pensionlaw29.RecoveryOffsetsReject", spec := "recoveryOffsetsReject", unfollowed := true, recurses := true, named := ["math/bits.divideError", "math/bits.overflowError"], apart := false, narrowed := true }
def RecoveryOffsetsRejectUptoSaid : Prop := recoveryOffsetsRejectUptoRow.holds Try.pinned (OpenSpec.upto recoveryOffsetsRejectSpec)

/-- 'pensionlaw29.RecoveryOffsetsAreBounded', WHERE WHAT IT READS IS OF BULK AT MOST 1048576: true; the input reads as it did. -/
def recoveryOffsetsAreBoundedUptoRow : OpenClaim := { program := "ytaifacnpnhcdcaa", sum := "170ce4abef04c10f0574383abf7795fd1ea35b2b37b7e0592b3ea393ef8cdaaa", func := "pension/pensionlaw29.RecoveryOffsetsAreBounded", spec := "recoveryOffsetsAreBounded", unfollowed := true, recurses := true, named := ["math/bits.divideError", "math/bits.overflowError"], apart := false, narrowed := true }
def RecoveryOffsetsAreBoundedUptoSaid : Prop := recoveryOffsetsAreBoundedUptoRow.holds Try.pinned (OpenSpec.upto recoveryOffsetsAreBoundedSpec)

/-- 'pensionlaw29.RecoveryOffsetsInOneCurrency', WHERE WHAT IT READS IS OF BULK AT MOST 1048576: true; the input reads as it did. -/
def recoveryOffsetsInOneCurrencyUptoRow : OpenClaim := { program := "ytaifacnpnhcdcaa", sum := "170ce4abef04c10f0574383abf7795fd1ea35b2b37b7e0592b3ea393ef8cdaaa", func := "pension/pensionlaw29.RecoveryOffsetsInOneCurrency", spec := "recoveryOffsetsInOneCurrency", unfollowed := true, recurses := true, named := ["math/bits.divideError", "math/bits.overflowError"], apart := false, narrowed := true }
def RecoveryOffsetsInOneCurrencyUptoSaid : Prop := recoveryOffsetsInOneCurrencyUptoRow.holds Try.pinned (OpenSpec.upto recoveryOffsetsInOneCurrencySpec)

/-- 'pensionlaw29.RecoveryOffsetsIgnoreOrder', WHERE WHAT IT READS IS OF BULK AT MOST 1048576: true; the input reads as it did. -/
def recoveryOffsetsIgnoreOrderUptoRow : OpenClaim := { program := "ytaifacnpnhcdcaa", sum := "170ce4abef04c10f0574383abf7795fd1ea35b2b37b7e0592b3ea393ef8cdaaa", func := "pension/pensionlaw29.RecoveryOffsetsIgnoreOrder", spec := "recoveryOffsetsIgnoreOrder", unfollowed := true, recurses := true, named := ["math/bits.divideError", "math/bits.overflowError"], apart := false, narrowed := true }
def RecoveryOffsetsIgnoreOrderUptoSaid : Prop := recoveryOffsetsIgnoreOrderUptoRow.holds Try.pinned (OpenSpec.upto recoveryOffsetsIgnoreOrderSpec)

end Rows
end Go.Proofs.Ytaifacnpnhcdcaa
