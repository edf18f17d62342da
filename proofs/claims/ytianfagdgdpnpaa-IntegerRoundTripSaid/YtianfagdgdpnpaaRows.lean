/-
  No cell of these rows narrows 'for every input' (looked for: loops, veiled, ifaces, maps, wideKeys, modest, calm, conditions, laid).
  DERIVED. THE GIVEN ROWS OF THIS SEAT. 20 by the template 'for every input the law returns true; each argument reads behind the call as it read before'; 0 by the template 'total and deterministic' (their statements: YtianfagdgdpnpaaTotals.lean).
  GIVEN WITH THE SEED: the statements are not yours to turn. If you find one false, say at which input.
  Laid BY PROGRAM, IN A SANDBOX (cutbox-rows.mjs): the forced cells as the released guide's own fill.sh prints them over the translation 0390d2f456b28f1c… (all of the seat's roots in one cut). By AI agents, Wed Nov 11 2026. No macro, syntax, notation, axiom, sorry.
-/
import Derived.Test.YtianfagdgdpnpaaChecked
import GoSem.Claim
import GoSem.ClaimJoined
import GoSem.ClaimMapViews
import Derived.JoinedTies
import Derived.KernelRfl
namespace Go.Proofs.Ytianfagdgdpnpaa
/- THE CELL 'sum', in the pinned program and in every row, IS THE sha256 OF THE DUMP (.gsa) THAT YtianfagdgdpnpaaProg.lean LOADS. Nothing in Lean hashes anything: it is a label: what it is worth is what the hold of that sum in a sandbox is worth. -/
noncomputable def Try.pinned : Pinned := { name := "ytianfagdgdpnpaa", sum := "0390d2f456b28f1cbe41352c403cbecad125e442d91d2bc79a7410c43c3e09dc", checked := Try.checked }
namespace Rows
def none {H : Type} : Left H := { results := [], args := [] }

/-- 'quadformlaw01.IntegerLimits': WHATEVER THE INPUT: true; the input reads as it did. -/
def integerLimitsSpec : ChangeSpec := { name := "integerLimits", fn := fun _ => fun
  | [] => { results := [.lit (.bool true)], args := [] }
  | _ => none }
def integerLimitsRow : OpenClaim := { program := "ytianfagdgdpnpaa", sum := "0390d2f456b28f1cbe41352c403cbecad125e442d91d2bc79a7410c43c3e09dc", func := "quadform/quadformlaw01.IntegerLimits", spec := "integerLimits", apart := false }
def IntegerLimitsSaid : Prop := integerLimitsRow.holds Try.pinned (OpenSpec.ofChange integerLimitsSpec)

/-- ITS FALSE NEIGHBOUR: 'it returns false'. Refute it at one input. -/
def integerLimitsWrong : ChangeSpec := { name := "integerLimits", fn := fun _ => fun
  | [] => { results := [.lit (.bool false)], args := [] }
  | _ => none }
def IntegerLimitsWrongFalsely : Prop := integerLimitsRow.holds Try.pinned (OpenSpec.ofChange integerLimitsWrong)

/-- 'quadformlaw01.IntegerSmall': WHATEVER THE INPUT: true; the input reads as it did. -/
def integerSmallSpec : ChangeSpec := { name := "integerSmall", fn := fun _ => fun
  | [d] => { results := [.lit (.bool true)], args := [d] }
  | _ => none }
def integerSmallRow : OpenClaim := { program := "ytianfagdgdpnpaa", sum := "0390d2f456b28f1cbe41352c403cbecad125e442d91d2bc79a7410c43c3e09dc", func := "quadform/quadformlaw01.IntegerSmall", spec := "integerSmall", apart := false }
def IntegerSmallSaid : Prop := integerSmallRow.holds Try.pinned (OpenSpec.ofChange integerSmallSpec)

/-- ITS FALSE NEIGHBOUR: 'it returns false'. Refute it at one input. -/
def integerSmallWrong : ChangeSpec := { name := "integerSmall", fn := fun _ => fun
  | [d] => { results := [.lit (.bool false)], args := [d] }
  | _ => none }
def IntegerSmallWrongFalsely : Prop := integerSmallRow.holds Try.pinned (OpenSpec.ofChange integerSmallWrong)

/-- 'quadformlaw01.IntegerFits': WHATEVER THE INPUT: true; the input reads as it did. -/
def integerFitsSpec : ChangeSpec := { name := "integerFits", fn := fun _ => fun
  | [d] => { results := [.lit (.bool true)], args := [d] }
  | _ => none }
def integerFitsRow : OpenClaim := { program := "ytianfagdgdpnpaa", sum := "0390d2f456b28f1cbe41352c403cbecad125e442d91d2bc79a7410c43c3e09dc", func := "quadform/quadformlaw01.IntegerFits", spec := "integerFits", apart := false }
def IntegerFitsSaid : Prop := integerFitsRow.holds Try.pinned (OpenSpec.ofChange integerFitsSpec)

/-- ITS FALSE NEIGHBOUR: 'it returns false'. Refute it at one input. -/
def integerFitsWrong : ChangeSpec := { name := "integerFits", fn := fun _ => fun
  | [d] => { results := [.lit (.bool false)], args := [d] }
  | _ => none }
def IntegerFitsWrongFalsely : Prop := integerFitsRow.holds Try.pinned (OpenSpec.ofChange integerFitsWrong)

/-- 'quadformlaw01.IntegerDivides': WHATEVER THE INPUT: true; the input reads as it did. -/
def integerDividesSpec : ChangeSpec := { name := "integerDivides", fn := fun _ => fun
  | [d1, d2] => { results := [.lit (.bool true)], args := [d1, d2] }
  | _ => none }
def integerDividesRow : OpenClaim := { program := "ytianfagdgdpnpaa", sum := "0390d2f456b28f1cbe41352c403cbecad125e442d91d2bc79a7410c43c3e09dc", func := "quadform/quadformlaw01.IntegerDivides", spec := "integerDivides", apart := false }
def IntegerDividesSaid : Prop := integerDividesRow.holds Try.pinned (OpenSpec.ofChange integerDividesSpec)

/-- ITS FALSE NEIGHBOUR: 'it returns false'. Refute it at one input. -/
def integerDividesWrong : ChangeSpec := { name := "integerDivides", fn := fun _ => fun
  | [d1, d2] => { results := [.lit (.bool false)], args := [d1, d2] }
  | _ => none }
def IntegerDividesWrongFalsely : Prop := integerDividesRow.holds Try.pinned (OpenSpec.ofChange integerDividesWrong)

/-- 'quadformlaw01.IntegerDivision': WHATEVER THE INPUT: true; the input reads as it did. -/
def integerDivisionSpec : ChangeSpec := { name := "integerDivision", fn := fun _ => fun
  | [d1, d2] => { results := [.lit (.bool true)], args := [d1, d2] }
  | _ => none }
def integerDivisionRow : OpenClaim := { program := "ytianfagdgdpnpaa", sum := "0390d2f456b28f1cbe41352c403cbecad125e442d91d2bc79a7410c43c3e09dc", func := "quadform/quadformlaw01.IntegerDivision", spec := "integerDivision", apart := false }
def IntegerDivisionSaid : Prop := integerDivisionRow.holds Try.pinned (OpenSpec.ofChange integerDivisionSpec)

/-- ITS FALSE NEIGHBOUR: 'it returns false'. Refute it at one input. -/
def integerDivisionWrong : ChangeSpec := { name := "integerDivision", fn := fun _ => fun
  | [d1, d2] => { results := [.lit (.bool false)], args := [d1, d2] }
  | _ => none }
def IntegerDivisionWrongFalsely : Prop := integerDivisionRow.holds Try.pinned (OpenSpec.ofChange integerDivisionWrong)

/-- 'quadformlaw01.IntegerRoots': WHATEVER THE INPUT: true; the input reads as it did. -/
def integerRootsSpec : ChangeSpec := { name := "integerRoots", fn := fun _ => fun
  | [d] => { results := [.lit (.bool true)], args := [d] }
  | _ => none }
def integerRootsRow : OpenClaim := { program := "ytianfagdgdpnpaa", sum := "0390d2f456b28f1cbe41352c403cbecad125e442d91d2bc79a7410c43c3e09dc", func := "quadform/quadformlaw01.IntegerRoots", spec := "integerRoots", apart := false }
def IntegerRootsSaid : Prop := integerRootsRow.holds Try.pinned (OpenSpec.ofChange integerRootsSpec)

/-- ITS FALSE NEIGHBOUR: 'it returns false'. Refute it at one input. -/
def integerRootsWrong : ChangeSpec := { name := "integerRoots", fn := fun _ => fun
  | [d] => { results := [.lit (.bool false)], args := [d] }
  | _ => none }
def IntegerRootsWrongFalsely : Prop := integerRootsRow.holds Try.pinned (OpenSpec.ofChange integerRootsWrong)

/-- 'quadformlaw01.IntegerSquares': WHATEVER THE INPUT: true; the input reads as it did. -/
def integerSquaresSpec : ChangeSpec := { name := "integerSquares", fn := fun _ => fun
  | [d1, d2] => { results := [.lit (.bool true)], args := [d1, d2] }
  | _ => none }
def integerSquaresRow : OpenClaim := { program := "ytianfagdgdpnpaa", sum := "0390d2f456b28f1cbe41352c403cbecad125e442d91d2bc79a7410c43c3e09dc", func := "quadform/quadformlaw01.IntegerSquares", spec := "integerSquares", apart := false }
def IntegerSquaresSaid : Prop := integerSquaresRow.holds Try.pinned (OpenSpec.ofChange integerSquaresSpec)

/-- ITS FALSE NEIGHBOUR: 'it returns false'. Refute it at one input. -/
def integerSquaresWrong : ChangeSpec := { name := "integerSquares", fn := fun _ => fun
  | [d1, d2] => { results := [.lit (.bool false)], args := [d1, d2] }
  | _ => none }
def IntegerSquaresWrongFalsely : Prop := integerSquaresRow.holds Try.pinned (OpenSpec.ofChange integerSquaresWrong)

/-- 'quadformlaw01.IntegerFormats': WHATEVER THE INPUT: true; the input reads as it did. -/
def integerFormatsSpec : ChangeSpec := { name := "integerFormats", fn := fun _ => fun
  | [d] => { results := [.lit (.bool true)], args := [d] }
  | _ => none }
def integerFormatsRow : OpenClaim := { program := "ytianfagdgdpnpaa", sum := "0390d2f456b28f1cbe41352c403cbecad125e442d91d2bc79a7410c43c3e09dc", func := "quadform/quadformlaw01.IntegerFormats", spec := "integerFormats", apart := false }
def IntegerFormatsSaid : Prop := integerFormatsRow.holds Try.pinned (OpenSpec.ofChange integerFormatsSpec)

/-- ITS FALSE NEIGHBOUR: 'it returns false'. Refute it at one input. -/
def integerFormatsWrong : ChangeSpec := { name := "integerFormats", fn := fun _ => fun
  | [d] => { results := [.lit (.bool false)], args := [d] }
  | _ => none }
def IntegerFormatsWrongFalsely : Prop := integerFormatsRow.holds Try.pinned (OpenSpec.ofChange integerFormatsWrong)

/-- 'quadformlaw01.IntegerNormalizes': WHATEVER THE INPUT: true; the input reads as it did. -/
def integerNormalizesSpec : ChangeSpec := { name := "integerNormalizes", fn := fun _ => fun
  | [d] => { results := [.lit (.bool true)], args := [d] }
  | _ => none }
def integerNormalizesRow : OpenClaim := { program := "ytianfagdgdpnpaa", sum := "0390d2f456b28f1cbe41352c403cbecad125e442d91d2bc79a7410c43c3e09dc", func := "quadform/quadformlaw01.IntegerNormalizes", spec := "integerNormalizes", apart := false }
def IntegerNormalizesSaid : Prop := integerNormalizesRow.holds Try.pinned (OpenSpec.ofChange integerNormalizesSpec)

/-- ITS FALSE NEIGHBOUR: 'it returns false'. Refute it at one input. -/
def integerNormalizesWrong : ChangeSpec := { name := "integerNormalizes", fn := fun _ => fun
  | [d] => { results := [.lit (.bool false)], args := [d] }
  | _ => none }
def IntegerNormalizesWrongFalsely : Prop := integerNormalizesRow.holds Try.pinned (OpenSpec.ofChange integerNormalizesWrong)

/-- 'quadformlaw01.IntegerCompares': WHATEVER THE INPUT: true; the input reads as it did. -/
def integerComparesSpec : ChangeSpec := { name := "integerCompares", fn := fun _ => fun
  | [d1, d2] => { results := [.lit (.bool true)], args := [d1, d2] }
  | _ => none }
def integerComparesRow : OpenClaim := { program := "ytianfagdgdpnpaa", sum := "0390d2f456b28f1cbe41352c403cbecad125e442d91d2bc79a7410c43c3e09dc", func := "quadform/quadformlaw01.IntegerCompares", spec := "integerCompares", apart := false }
def IntegerComparesSaid : Prop := integerComparesRow.holds Try.pinned (OpenSpec.ofChange integerComparesSpec)

/-- ITS FALSE NEIGHBOUR: 'it returns false'. Refute it at one input. -/
def integerComparesWrong : ChangeSpec := { name := "integerCompares", fn := fun _ => fun
  | [d1, d2] => { results := [.lit (.bool false)], args := [d1, d2] }
  | _ => none }
def IntegerComparesWrongFalsely : Prop := integerComparesRow.holds Try.pinned (OpenSpec.ofChange integerComparesWrong)

/-- 'quadformlaw01.IntegerGcds': WHATEVER THE INPUT: true; the input reads as it did. -/
def integerGcdsSpec : ChangeSpec := { name := "integerGcds", fn := fun _ => fun
  | [d1, d2] => { results := [.lit (.bool true)], args := [d1, d2] }
  | _ => none }
def integerGcdsRow : OpenClaim := { program := "ytianfagdgdpnpaa", sum := "0390d2f456b28f1cbe41352c403cbecad125e442d91d2bc79a7410c43c3e09dc", func := "quadform/quadformlaw01.IntegerGcds", spec := "integerGcds", apart := false }
def IntegerGcdsSaid : Prop := integerGcdsRow.holds Try.pinned (OpenSpec.ofChange integerGcdsSpec)

/-- ITS FALSE NEIGHBOUR: 'it returns false'. Refute it at one input. -/
def integerGcdsWrong : ChangeSpec := { name := "integerGcds", fn := fun _ => fun
  | [d1, d2] => { results := [.lit (.bool false)], args := [d1, d2] }
  | _ => none }
def IntegerGcdsWrongFalsely : Prop := integerGcdsRow.holds Try.pinned (OpenSpec.ofChange integerGcdsWrong)

/-- 'quadformlaw01.IntegerCommon': WHATEVER THE INPUT: true; the input reads as it did. -/
def integerCommonSpec : ChangeSpec := { name := "integerCommon", fn := fun _ => fun
  | [d1, d2, d3] => { results := [.lit (.bool true)], args := [d1, d2, d3] }
  | _ => none }
def integerCommonRow : OpenClaim := { program := "ytianfagdgdpnpaa", sum := "0390d2f456b28f1cbe41352c403cbecad125e442d91d2bc79a7410c43c3e09dc", func := "quadform/quadformlaw01.IntegerCommon", spec := "integerCommon", apart := false }
def IntegerCommonSaid : Prop := integerCommonRow.holds Try.pinned (OpenSpec.ofChange integerCommonSpec)

/-- ITS FALSE NEIGHBOUR: 'it returns false'. Refute it at one input. -/
def integerCommonWrong : ChangeSpec := { name := "integerCommon", fn := fun _ => fun
  | [d1, d2, d3] => { results := [.lit (.bool false)], args := [d1, d2, d3] }
  | _ => none }
def IntegerCommonWrongFalsely : Prop := integerCommonRow.holds Try.pinned (OpenSpec.ofChange integerCommonWrong)

/-- 'quadformlaw01.IntegerAdds': WHATEVER THE INPUT: true; the input reads as it did. -/
def integerAddsSpec : ChangeSpec := { name := "integerAdds", fn := fun _ => fun
  | [d1, d2] => { results := [.lit (.bool true)], args := [d1, d2] }
  | _ => none }
def integerAddsRow : OpenClaim := { program := "ytianfagdgdpnpaa", sum := "0390d2f456b28f1cbe41352c403cbecad125e442d91d2bc79a7410c43c3e09dc", func := "quadform/quadformlaw01.IntegerAdds", spec := "integerAdds", apart := false }
def IntegerAddsSaid : Prop := integerAddsRow.holds Try.pinned (OpenSpec.ofChange integerAddsSpec)

/-- ITS FALSE NEIGHBOUR: 'it returns false'. Refute it at one input. -/
def integerAddsWrong : ChangeSpec := { name := "integerAdds", fn := fun _ => fun
  | [d1, d2] => { results := [.lit (.bool false)], args := [d1, d2] }
  | _ => none }
def IntegerAddsWrongFalsely : Prop := integerAddsRow.holds Try.pinned (OpenSpec.ofChange integerAddsWrong)

/-- 'quadformlaw01.IntegerMultiplies': WHATEVER THE INPUT: true; the input reads as it did. -/
def integerMultipliesSpec : ChangeSpec := { name := "integerMultiplies", fn := fun _ => fun
  | [d1, d2] => { results := [.lit (.bool true)], args := [d1, d2] }
  | _ => none }
def integerMultipliesRow : OpenClaim := { program := "ytianfagdgdpnpaa", sum := "0390d2f456b28f1cbe41352c403cbecad125e442d91d2bc79a7410c43c3e09dc", func := "quadform/quadformlaw01.IntegerMultiplies", spec := "integerMultiplies", apart := false }
def IntegerMultipliesSaid : Prop := integerMultipliesRow.holds Try.pinned (OpenSpec.ofChange integerMultipliesSpec)

/-- ITS FALSE NEIGHBOUR: 'it returns false'. Refute it at one input. -/
def integerMultipliesWrong : ChangeSpec := { name := "integerMultiplies", fn := fun _ => fun
  | [d1, d2] => { results := [.lit (.bool false)], args := [d1, d2] }
  | _ => none }
def IntegerMultipliesWrongFalsely : Prop := integerMultipliesRow.holds Try.pinned (OpenSpec.ofChange integerMultipliesWrong)

/-- 'quadformlaw01.IntegerPowers': WHATEVER THE INPUT: true; the input reads as it did. -/
def integerPowersSpec : ChangeSpec := { name := "integerPowers", fn := fun _ => fun
  | [d1, d2] => { results := [.lit (.bool true)], args := [d1, d2] }
  | _ => none }
def integerPowersRow : OpenClaim := { program := "ytianfagdgdpnpaa", sum := "0390d2f456b28f1cbe41352c403cbecad125e442d91d2bc79a7410c43c3e09dc", func := "quadform/quadformlaw01.IntegerPowers", spec := "integerPowers", apart := false }
def IntegerPowersSaid : Prop := integerPowersRow.holds Try.pinned (OpenSpec.ofChange integerPowersSpec)

/-- ITS FALSE NEIGHBOUR: 'it returns false'. Refute it at one input. -/
def integerPowersWrong : ChangeSpec := { name := "integerPowers", fn := fun _ => fun
  | [d1, d2] => { results := [.lit (.bool false)], args := [d1, d2] }
  | _ => none }
def IntegerPowersWrongFalsely : Prop := integerPowersRow.holds Try.pinned (OpenSpec.ofChange integerPowersWrong)

/-- 'quadformlaw01.IntegerParses': WHATEVER THE INPUT: true; the input reads as it did. -/
def integerParsesSpec : ChangeSpec := { name := "integerParses", fn := fun _ => fun
  | [d] => { results := [.lit (.bool true)], args := [d] }
  | _ => none }
def integerParsesRow : OpenClaim := { program := "ytianfagdgdpnpaa", sum := "0390d2f456b28f1cbe41352c403cbecad125e442d91d2bc79a7410c43c3e09dc", func := "quadform/quadformlaw01.IntegerParses", spec := "integerParses", apart := false }
def IntegerParsesSaid : Prop := integerParsesRow.holds Try.pinned (OpenSpec.ofChange integerParsesSpec)

/-- ITS FALSE NEIGHBOUR: 'it returns false'. Refute it at one input. -/
def integerParsesWrong : ChangeSpec := { name := "integerParses", fn := fun _ => fun
  | [d] => { results := [.lit (.bool false)], args := [d] }
  | _ => none }
def IntegerParsesWrongFalsely : Prop := integerParsesRow.holds Try.pinned (OpenSpec.ofChange integerParsesWrong)

/-- 'quadformlaw01.IntegerDigits': WHATEVER THE INPUT: true; the input reads as it did. -/
def integerDigitsSpec : ChangeSpec := { name := "integerDigits", fn := fun _ => fun
  | [d1, d2, d3] => { results := [.lit (.bool true)], args := [d1, d2, d3] }
  | _ => none }
def integerDigitsRow : OpenClaim := { program := "ytianfagdgdpnpaa", sum := "0390d2f456b28f1cbe41352c403cbecad125e442d91d2bc79a7410c43c3e09dc", func := "quadform/quadformlaw01.IntegerDigits", spec := "integerDigits", apart := false }
def IntegerDigitsSaid : Prop := integerDigitsRow.holds Try.pinned (OpenSpec.ofChange integerDigitsSpec)

/-- ITS FALSE NEIGHBOUR: 'it returns false'. Refute it at one input. -/
def integerDigitsWrong : ChangeSpec := { name := "integerDigits", fn := fun _ => fun
  | [d1, d2, d3] => { results := [.lit (.bool false)], args := [d1, d2, d3] }
  | _ => none }
def IntegerDigitsWrongFalsely : Prop := integerDigitsRow.holds Try.pinned (OpenSpec.ofChange integerDigitsWrong)

/-- 'quadformlaw01.IntegerRoundTrip': WHATEVER THE INPUT: true; the input reads as it did. -/
def integerRoundTripSpec : ChangeSpec := { name := "integerRoundTrip", fn := fun _ => fun
  | [d] => { results := [.lit (.bool true)], args := [d] }
  | _ => none }
def integerRoundTripRow : OpenClaim := { program := "ytianfagdgdpnpaa", sum := "0390d2f456b28f1cbe41352c403cbecad125e442d91d2bc79a7410c43c3e09dc", func := "quadform/quadformlaw01.IntegerRoundTrip", spec := "integerRoundTrip", apart := false }
def IntegerRoundTripSaid : Prop := integerRoundTripRow.holds Try.pinned (OpenSpec.ofChange integerRoundTripSpec)

/-- ITS FALSE NEIGHBOUR: 'it returns false'. Refute it at one input. -/
def integerRoundTripWrong : ChangeSpec := { name := "integerRoundTrip", fn := fun _ => fun
  | [d] => { results := [.lit (.bool false)], args := [d] }
  | _ => none }
def IntegerRoundTripWrongFalsely : Prop := integerRoundTripRow.holds Try.pinned (OpenSpec.ofChange integerRoundTripWrong)

/-- 'quadformlaw01.IntegerRing': WHATEVER THE INPUT: true; the input reads as it did. -/
def integerRingSpec : ChangeSpec := { name := "integerRing", fn := fun _ => fun
  | [d1, d2, d3] => { results := [.lit (.bool true)], args := [d1, d2, d3] }
  | _ => none }
def integerRingRow : OpenClaim := { program := "ytianfagdgdpnpaa", sum := "0390d2f456b28f1cbe41352c403cbecad125e442d91d2bc79a7410c43c3e09dc", func := "quadform/quadformlaw01.IntegerRing", spec := "integerRing", apart := false }
def IntegerRingSaid : Prop := integerRingRow.holds Try.pinned (OpenSpec.ofChange integerRingSpec)

/-- ITS FALSE NEIGHBOUR: 'it returns false'. Refute it at one input. -/
def integerRingWrong : ChangeSpec := { name := "integerRing", fn := fun _ => fun
  | [d1, d2, d3] => { results := [.lit (.bool false)], args := [d1, d2, d3] }
  | _ => none }
def IntegerRingWrongFalsely : Prop := integerRingRow.holds Try.pinned (OpenSpec.ofChange integerRingWrong)

/-- 'quadformlaw01.IntegerPlain': WHATEVER THE INPUT: true; the input reads as it did. -/
def integerPlainSpec : ChangeSpec := { name := "integerPlain", fn := fun _ => fun
  | [d1, d2] => { results := [.lit (.bool true)], args := [d1, d2] }
  | _ => none }
def integerPlainRow : OpenClaim := { program := "ytianfagdgdpnpaa", sum := "0390d2f456b28f1cbe41352c403cbecad125e442d91d2bc79a7410c43c3e09dc", func := "quadform/quadformlaw01.IntegerPlain", spec := "integerPlain", apart := false }
def IntegerPlainSaid : Prop := integerPlainRow.holds Try.pinned (OpenSpec.ofChange integerPlainSpec)

/-- ITS FALSE NEIGHBOUR: 'it returns false'. Refute it at one input. -/
def integerPlainWrong : ChangeSpec := { name := "integerPlain", fn := fun _ => fun
  | [d1, d2] => { results := [.lit (.bool false)], args := [d1, d2] }
  | _ => none }
def IntegerPlainWrongFalsely : Prop := integerPlainRow.holds Try.pinned (OpenSpec.ofChange integerPlainWrong)

/- THE SECOND FORM. 'bulk': how many values and letters a reading holds, each counted each time it is reached (what is shared counts as often as it is met; a slice's spare places count too). A statement '..UptoSaid' is the law's where the arguments, and the package variables that the reading takes, are together of bulk at most 1048576: NARROWER than '..Said'. Prove '..Said' where nothing that the law and all that it calls make is longer than what came in: it says more and counts as full. Else prove '..UptoSaid'. A law counts once. -/
mutual
def uptoBulk {H : Type} : DataW H → Nat
  | .lit (.string bytes) => bytes.length + 1
  | .lit _ => 1
  | .nil => 1
  | .ptr d => uptoBulk d + 1
  | .slice elems spare => uptoBulkAll elems + uptoBulkAll spare + 1
  | .agg parts => uptoBulkAll parts + 1
  | .iface _ d => uptoBulk d + 1
  | .map entries => uptoBulkEntries entries + 1
  | .held _ => 1
def uptoBulkAll {H : Type} : List (DataW H) → Nat
  | [] => 0
  | d :: r => uptoBulk d + uptoBulkAll r
def uptoBulkEntries {H : Type} : List (Lit × DataW H) → Nat
  | [] => 0
  | x :: r => uptoBulkEntry x + uptoBulkEntries r
def uptoBulkEntry {H : Type} : Lit × DataW H → Nat
  | (.string bytes, d) => bytes.length + uptoBulk d + 1
  | (_, d) => uptoBulk d + 1
 end
def uptoSmall : (H : Type) → List (DataW H) → Bool := fun _ ds => decide (uptoBulkAll ds ≤ 1048576)
def OpenSpec.upto (s : _root_.Go.ChangeSpec) : _root_.Go.OpenSpec := { _root_.Go.OpenSpec.ofChange s with cond := some uptoSmall }

/-- 'quadformlaw01.IntegerLimits', WHERE WHAT IT READS IS OF BULK AT MOST 1048576: true; the input reads as it did. -/
def integerLimitsUptoRow : OpenClaim := { program := "ytianfagdgdpnpaa", sum := "0390d2f456b28f1cbe41352c403cbecad125e442d91d2bc79a7410c43c3e09dc", func := "quadform/quadformlaw01.IntegerLimits", spec := "integerLimits", apart := false, narrowed := true }
def IntegerLimitsUptoSaid : Prop := integerLimitsUptoRow.holds Try.pinned (OpenSpec.upto integerLimitsSpec)

/-- 'quadformlaw01.IntegerSmall', WHERE WHAT IT READS IS OF BULK AT MOST 1048576: true; the input reads as it did. -/
def integerSmallUptoRow : OpenClaim := { program := "ytianfagdgdpnpaa", sum := "0390d2f456b28f1cbe41352c403cbecad125e442d91d2bc79a7410c43c3e09dc", func := "quadform/quadformlaw01.IntegerSmall", spec := "integerSmall", apart := false, narrowed := true }
def IntegerSmallUptoSaid : Prop := integerSmallUptoRow.holds Try.pinned (OpenSpec.upto integerSmallSpec)

/-- 'quadformlaw01.IntegerFits', WHERE WHAT IT READS IS OF BULK AT MOST 1048576: true; the input reads as it did. -/
def integerFitsUptoRow : OpenClaim := { program := "ytianfagdgdpnpaa", sum := "0390d2f456b28f1cbe41352c403cbecad125e442d91d2bc79a7410c43c3e09dc", func := "quadform/quadformlaw01.IntegerFits", spec := "integerFits", apart := false, narrowed := true }
def IntegerFitsUptoSaid : Prop := integerFitsUptoRow.holds Try.pinned (OpenSpec.upto integerFitsSpec)

/-- 'quadformlaw01.IntegerDivides', WHERE WHAT IT READS IS OF BULK AT MOST 1048576: true; the input reads as it did. -/
def integerDividesUptoRow : OpenClaim := { program := "ytianfagdgdpnpaa", sum := "0390d2f456b28f1cbe41352c403cbecad125e442d91d2bc79a7410c43c3e09dc", func := "quadform/quadformlaw01.IntegerDivides", spec := "integerDivides", apart := false, narrowed := true }
def IntegerDividesUptoSaid : Prop := integerDividesUptoRow.holds Try.pinned (OpenSpec.upto integerDividesSpec)

/-- 'quadformlaw01.IntegerDivision', WHERE WHAT IT READS IS OF BULK AT MOST 1048576: true; the input reads as it did. -/
def integerDivisionUptoRow : OpenClaim := { program := "ytianfagdgdpnpaa", sum := "0390d2f456b28f1cbe41352c403cbecad125e442d91d2bc79a7410c43c3e09dc", func := "quadform/quadformlaw01.IntegerDivision", spec := "integerDivision", apart := false, narrowed := true }
def IntegerDivisionUptoSaid : Prop := integerDivisionUptoRow.holds Try.pinned (OpenSpec.upto integerDivisionSpec)

/-- 'quadformlaw01.IntegerRoots', WHERE WHAT IT READS IS OF BULK AT MOST 1048576: true; the input reads as it did. -/
def integerRootsUptoRow : OpenClaim := { program := "ytianfagdgdpnpaa", sum := "0390d2f456b28f1cbe41352c403cbecad125e442d91d2bc79a7410c43c3e09dc", func := "quadform/quadformlaw01.IntegerRoots", spec := "integerRoots", apart := false, narrowed := true }
def IntegerRootsUptoSaid : Prop := integerRootsUptoRow.holds Try.pinned (OpenSpec.upto integerRootsSpec)

/-- 'quadformlaw01.IntegerSquares', WHERE WHAT IT READS IS OF BULK AT MOST 1048576: true; the input reads as it did. -/
def integerSquaresUptoRow : OpenClaim := { program := "ytianfagdgdpnpaa", sum := "0390d2f456b28f1cbe41352c403cbecad125e442d91d2bc79a7410c43c3e09dc", func := "quadform/quadformlaw01.IntegerSquares", spec := "integerSquares", apart := false, narrowed := true }
def IntegerSquaresUptoSaid : Prop := integerSquaresUptoRow.holds Try.pinned (OpenSpec.upto integerSquaresSpec)

/-- 'quadformlaw01.IntegerFormats', WHERE WHAT IT READS IS OF BULK AT MOST 1048576: true; the input reads as it did. -/
def integerFormatsUptoRow : OpenClaim := { program := "ytianfagdgdpnpaa", sum := "0390d2f456b28f1cbe41352c403cbecad125e442d91d2bc79a7410c43c3e09dc", func := "quadform/quadformlaw01.IntegerFormats", spec := "integerFormats", apart := false, narrowed := true }
def IntegerFormatsUptoSaid : Prop := integerFormatsUptoRow.holds Try.pinned (OpenSpec.upto integerFormatsSpec)

/-- 'quadformlaw01.IntegerNormalizes', WHERE WHAT IT READS IS OF BULK AT MOST 1048576: true; the input reads as it did. -/
def integerNormalizesUptoRow : OpenClaim := { program := "ytianfagdgdpnpaa", sum := "0390d2f456b28f1cbe41352c403cbecad125e442d91d2bc79a7410c43c3e09dc", func := "quadform/quadformlaw01.IntegerNormalizes", spec := "integerNormalizes", apart := false, narrowed := true }
def IntegerNormalizesUptoSaid : Prop := integerNormalizesUptoRow.holds Try.pinned (OpenSpec.upto integerNormalizesSpec)

/-- 'quadformlaw01.IntegerCompares', WHERE WHAT IT READS IS OF BULK AT MOST 1048576: true; the input reads as it did. -/
def integerComparesUptoRow : OpenClaim := { program := "ytianfagdgdpnpaa", sum := "0390d2f456b28f1cbe41352c403cbecad125e442d91d2bc79a7410c43c3e09dc", func := "quadform/quadformlaw01.IntegerCompares", spec := "integerCompares", apart := false, narrowed := true }
def IntegerComparesUptoSaid : Prop := integerComparesUptoRow.holds Try.pinned (OpenSpec.upto integerComparesSpec)

/-- 'quadformlaw01.IntegerGcds', WHERE WHAT IT READS IS OF BULK AT MOST 1048576: true; the input reads as it did. -/
def integerGcdsUptoRow : OpenClaim := { program := "ytianfagdgdpnpaa", sum := "0390d2f456b28f1cbe41352c403cbecad125e442d91d2bc79a7410c43c3e09dc", func := "quadform/quadformlaw01.IntegerGcds", spec := "integerGcds", apart := false, narrowed := true }
def IntegerGcdsUptoSaid : Prop := integerGcdsUptoRow.holds Try.pinned (OpenSpec.upto integerGcdsSpec)

/-- 'quadformlaw01.IntegerCommon', WHERE WHAT IT READS IS OF BULK AT MOST 1048576: true; the input reads as it did. -/
def integerCommonUptoRow : OpenClaim := { program := "ytianfagdgdpnpaa", sum := "0390d2f456b28f1cbe41352c403cbecad125e442d91d2bc79a7410c43c3e09dc", func := "quadform/quadformlaw01.IntegerCommon", spec := "integerCommon", apart := false, narrowed := true }
def IntegerCommonUptoSaid : Prop := integerCommonUptoRow.holds Try.pinned (OpenSpec.upto integerCommonSpec)

/-- 'quadformlaw01.IntegerAdds', WHERE WHAT IT READS IS OF BULK AT MOST 1048576: true; the input reads as it did. -/
def integerAddsUptoRow : OpenClaim := { program := "ytianfagdgdpnpaa", sum := "0390d2f456b28f1cbe41352c403cbecad125e442d91d2bc79a7410c43c3e09dc", func := "quadform/quadformlaw01.IntegerAdds", spec := "integerAdds", apart := false, narrowed := true }
def IntegerAddsUptoSaid : Prop := integerAddsUptoRow.holds Try.pinned (OpenSpec.upto integerAddsSpec)

/-- 'quadformlaw01.IntegerMultiplies', WHERE WHAT IT READS IS OF BULK AT MOST 1048576: true; the input reads as it did. -/
def integerMultipliesUptoRow : OpenClaim := { program := "ytianfagdgdpnpaa", sum := "0390d2f456b28f1cbe41352c403cbecad125e442d91d2bc79a7410c43c3e09dc", func := "quadform/quadformlaw01.IntegerMultiplies", spec := "integerMultiplies", apart := false, narrowed := true }
def IntegerMultipliesUptoSaid : Prop := integerMultipliesUptoRow.holds Try.pinned (OpenSpec.upto integerMultipliesSpec)

/-- 'quadformlaw01.IntegerPowers', WHERE WHAT IT READS IS OF BULK AT MOST 1048576: true; the input reads as it did. -/
def integerPowersUptoRow : OpenClaim := { program := "ytianfagdgdpnpaa", sum := "0390d2f456b28f1cbe41352c403cbecad125e442d91d2bc79a7410c43c3e09dc", func := "quadform/quadformlaw01.IntegerPowers", spec := "integerPowers", apart := false, narrowed := true }
def IntegerPowersUptoSaid : Prop := integerPowersUptoRow.holds Try.pinned (OpenSpec.upto integerPowersSpec)

/-- 'quadformlaw01.IntegerParses', WHERE WHAT IT READS IS OF BULK AT MOST 1048576: true; the input reads as it did. -/
def integerParsesUptoRow : OpenClaim := { program := "ytianfagdgdpnpaa", sum := "0390d2f456b28f1cbe41352c403cbecad125e442d91d2bc79a7410c43c3e09dc", func := "quadform/quadformlaw01.IntegerParses", spec := "integerParses", apart := false, narrowed := true }
def IntegerParsesUptoSaid : Prop := integerParsesUptoRow.holds Try.pinned (OpenSpec.upto integerParsesSpec)

/-- 'quadformlaw01.IntegerDigits', WHERE WHAT IT READS IS OF BULK AT MOST 1048576: true; the input reads as it did. -/
def integerDigitsUptoRow : OpenClaim := { program := "ytianfagdgdpnpaa", sum := "0390d2f456b28f1cbe41352c403cbecad125e442d91d2bc79a7410c43c3e09dc", func := "quadform/quadformlaw01.IntegerDigits", spec := "integerDigits", apart := false, narrowed := true }
def IntegerDigitsUptoSaid : Prop := integerDigitsUptoRow.holds Try.pinned (OpenSpec.upto integerDigitsSpec)

/-- 'quadformlaw01.IntegerRoundTrip', WHERE WHAT IT READS IS OF BULK AT MOST 1048576: true; the input reads as it did. -/
def integerRoundTripUptoRow : OpenClaim := { program := "ytianfagdgdpnpaa", sum := "0390d2f456b28f1cbe41352c403cbecad125e442d91d2bc79a7410c43c3e09dc", func := "quadform/quadformlaw01.IntegerRoundTrip", spec := "integerRoundTrip", apart := false, narrowed := true }
def IntegerRoundTripUptoSaid : Prop := integerRoundTripUptoRow.holds Try.pinned (OpenSpec.upto integerRoundTripSpec)

/-- 'quadformlaw01.IntegerRing', WHERE WHAT IT READS IS OF BULK AT MOST 1048576: true; the input reads as it did. -/
def integerRingUptoRow : OpenClaim := { program := "ytianfagdgdpnpaa", sum := "0390d2f456b28f1cbe41352c403cbecad125e442d91d2bc79a7410c43c3e09dc", func := "quadform/quadformlaw01.IntegerRing", spec := "integerRing", apart := false, narrowed := true }
def IntegerRingUptoSaid : Prop := integerRingUptoRow.holds Try.pinned (OpenSpec.upto integerRingSpec)

/-- 'quadformlaw01.IntegerPlain', WHERE WHAT IT READS IS OF BULK AT MOST 1048576: true; the input reads as it did. -/
def integerPlainUptoRow : OpenClaim := { program := "ytianfagdgdpnpaa", sum := "0390d2f456b28f1cbe41352c403cbecad125e442d91d2bc79a7410c43c3e09dc", func := "quadform/quadformlaw01.IntegerPlain", spec := "integerPlain", apart := false, narrowed := true }
def IntegerPlainUptoSaid : Prop := integerPlainUptoRow.holds Try.pinned (OpenSpec.upto integerPlainSpec)

end Rows
end Go.Proofs.Ytianfagdgdpnpaa
