/-
  No cell of these rows narrows 'for every input' (looked for: loops, veiled, ifaces, maps, wideKeys, modest, calm, conditions, laid).
  DERIVED. THE GIVEN ROWS OF THIS SEAT. 10 by the template 'for every input the law returns true; each argument reads behind the call as it read before'; 0 by the template 'total and deterministic' (their statements: YtlhbkhjaajcfgaaGreatTotals.lean).
  GIVEN WITH THE SEED: the statements are not yours to turn. If you find one false, say at which input.
  Laid BY PROGRAM, IN A SANDBOX (cutbox-rows.mjs): the forced cells as the released guide's own fill.sh prints them over the translation 56516a0216939437… (all of the seat's roots in one cut). By AI agents, Wed Nov 11 2026. No macro, syntax, notation, axiom, sorry.
-/
import Derived.Test.YtlhbkhjaajcfgaaGreatChecked
import GoSem.Claim
import GoSem.ClaimJoined
import GoSem.ClaimMapViews
import Derived.JoinedTies
import Derived.KernelRfl
namespace Go.Proofs.YtlhbkhjaajcfgaaGreat
/- THE CELL 'sum', in the pinned program and in every row, IS THE sha256 OF THE DUMP (.gsa) THAT YtlhbkhjaajcfgaaGreatProg.lean LOADS. Nothing in Lean hashes anything: it is a label: what it is worth is what the hold of that sum in a sandbox is worth. -/
noncomputable def Tryz.pinned : Pinned := { name := "ytlhbkhjaajcfgaagreat", sum := "56516a021693943711fac3d545eb71616ae5404688ea80ba37990bb10afb96ab", checked := Tryz.checked }
namespace Rows
def none {H : Type} : Left H := { results := [], args := [] }

/-- 'quadformlaw10.SchurPartial': WHATEVER THE INPUT: true; the input reads as it did. -/
def schurPartialSpec : ChangeSpec := { name := "schurPartial", fn := fun _ => fun
  | [d1, d2, d3] => { results := [.lit (.bool true)], args := [d1, d2, d3] }
  | _ => none }
def schurPartialRow : OpenClaim := { program := "ytlhbkhjaajcfgaagreat", sum := "56516a021693943711fac3d545eb71616ae5404688ea80ba37990bb10afb96ab", func := "quadform/quadformlaw10.SchurPartial", spec := "schurPartial", unfollowed := true, recurses := true, apart := false }
def SchurPartialSaid : Prop := schurPartialRow.holds Tryz.pinned (OpenSpec.ofChange schurPartialSpec)

/-- ITS FALSE NEIGHBOUR: 'it returns false'. Refute it at one input. -/
def schurPartialWrong : ChangeSpec := { name := "schurPartial", fn := fun _ => fun
  | [d1, d2, d3] => { results := [.lit (.bool false)], args := [d1, d2, d3] }
  | _ => none }
def SchurPartialWrongFalsely : Prop := schurPartialRow.holds Tryz.pinned (OpenSpec.ofChange schurPartialWrong)

/-- 'quadformlaw10.SchurPartialAny': WHATEVER THE INPUT: true; the input reads as it did. -/
def schurPartialAnySpec : ChangeSpec := { name := "schurPartialAny", fn := fun _ => fun
  | [d1, d2, d3, d4] => { results := [.lit (.bool true)], args := [d1, d2, d3, d4] }
  | _ => none }
def schurPartialAnyRow : OpenClaim := { program := "ytlhbkhjaajcfgaagreat", sum := "56516a021693943711fac3d545eb71616ae5404688ea80ba37990bb10afb96ab", func := "quadform/quadformlaw10.SchurPartialAny", spec := "schurPartialAny", unfollowed := true, recurses := true, apart := false }
def SchurPartialAnySaid : Prop := schurPartialAnyRow.holds Tryz.pinned (OpenSpec.ofChange schurPartialAnySpec)

/-- ITS FALSE NEIGHBOUR: 'it returns false'. Refute it at one input. -/
def schurPartialAnyWrong : ChangeSpec := { name := "schurPartialAny", fn := fun _ => fun
  | [d1, d2, d3, d4] => { results := [.lit (.bool false)], args := [d1, d2, d3, d4] }
  | _ => none }
def SchurPartialAnyWrongFalsely : Prop := schurPartialAnyRow.holds Tryz.pinned (OpenSpec.ofChange schurPartialAnyWrong)

/-- 'quadformlaw10.SchurInterval': WHATEVER THE INPUT: true; the input reads as it did. -/
def schurIntervalSpec : ChangeSpec := { name := "schurInterval", fn := fun _ => fun
  | [d1, d2, d3, d4] => { results := [.lit (.bool true)], args := [d1, d2, d3, d4] }
  | _ => none }
def schurIntervalRow : OpenClaim := { program := "ytlhbkhjaajcfgaagreat", sum := "56516a021693943711fac3d545eb71616ae5404688ea80ba37990bb10afb96ab", func := "quadform/quadformlaw10.SchurInterval", spec := "schurInterval", unfollowed := true, recurses := true, apart := false }
def SchurIntervalSaid : Prop := schurIntervalRow.holds Tryz.pinned (OpenSpec.ofChange schurIntervalSpec)

/-- ITS FALSE NEIGHBOUR: 'it returns false'. Refute it at one input. -/
def schurIntervalWrong : ChangeSpec := { name := "schurInterval", fn := fun _ => fun
  | [d1, d2, d3, d4] => { results := [.lit (.bool false)], args := [d1, d2, d3, d4] }
  | _ => none }
def SchurIntervalWrongFalsely : Prop := schurIntervalRow.holds Tryz.pinned (OpenSpec.ofChange schurIntervalWrong)

/-- 'quadformlaw10.SchurIntervalAny': WHATEVER THE INPUT: true; the input reads as it did. -/
def schurIntervalAnySpec : ChangeSpec := { name := "schurIntervalAny", fn := fun _ => fun
  | [d1, d2, d3, d4, d5] => { results := [.lit (.bool true)], args := [d1, d2, d3, d4, d5] }
  | _ => none }
def schurIntervalAnyRow : OpenClaim := { program := "ytlhbkhjaajcfgaagreat", sum := "56516a021693943711fac3d545eb71616ae5404688ea80ba37990bb10afb96ab", func := "quadform/quadformlaw10.SchurIntervalAny", spec := "schurIntervalAny", unfollowed := true, recurses := true, apart := false }
def SchurIntervalAnySaid : Prop := schurIntervalAnyRow.holds Tryz.pinned (OpenSpec.ofChange schurIntervalAnySpec)

/-- ITS FALSE NEIGHBOUR: 'it returns false'. Refute it at one input. -/
def schurIntervalAnyWrong : ChangeSpec := { name := "schurIntervalAny", fn := fun _ => fun
  | [d1, d2, d3, d4, d5] => { results := [.lit (.bool false)], args := [d1, d2, d3, d4, d5] }
  | _ => none }
def SchurIntervalAnyWrongFalsely : Prop := schurIntervalAnyRow.holds Tryz.pinned (OpenSpec.ofChange schurIntervalAnyWrong)

/-- 'quadformlaw10.SchurInside': WHATEVER THE INPUT: true; the input reads as it did. -/
def schurInsideSpec : ChangeSpec := { name := "schurInside", fn := fun _ => fun
  | [d1, d2, d3, d4] => { results := [.lit (.bool true)], args := [d1, d2, d3, d4] }
  | _ => none }
def schurInsideRow : OpenClaim := { program := "ytlhbkhjaajcfgaagreat", sum := "56516a021693943711fac3d545eb71616ae5404688ea80ba37990bb10afb96ab", func := "quadform/quadformlaw10.SchurInside", spec := "schurInside", unfollowed := true, recurses := true, apart := false }
def SchurInsideSaid : Prop := schurInsideRow.holds Tryz.pinned (OpenSpec.ofChange schurInsideSpec)

/-- ITS FALSE NEIGHBOUR: 'it returns false'. Refute it at one input. -/
def schurInsideWrong : ChangeSpec := { name := "schurInside", fn := fun _ => fun
  | [d1, d2, d3, d4] => { results := [.lit (.bool false)], args := [d1, d2, d3, d4] }
  | _ => none }
def SchurInsideWrongFalsely : Prop := schurInsideRow.holds Tryz.pinned (OpenSpec.ofChange schurInsideWrong)

/-- 'quadformlaw10.SchurGrows': WHATEVER THE INPUT: true; the input reads as it did. -/
def schurGrowsSpec : ChangeSpec := { name := "schurGrows", fn := fun _ => fun
  | [d1, d2] => { results := [.lit (.bool true)], args := [d1, d2] }
  | _ => none }
def schurGrowsRow : OpenClaim := { program := "ytlhbkhjaajcfgaagreat", sum := "56516a021693943711fac3d545eb71616ae5404688ea80ba37990bb10afb96ab", func := "quadform/quadformlaw10.SchurGrows", spec := "schurGrows", unfollowed := true, recurses := true, apart := false }
def SchurGrowsSaid : Prop := schurGrowsRow.holds Tryz.pinned (OpenSpec.ofChange schurGrowsSpec)

/-- ITS FALSE NEIGHBOUR: 'it returns false'. Refute it at one input. -/
def schurGrowsWrong : ChangeSpec := { name := "schurGrows", fn := fun _ => fun
  | [d1, d2] => { results := [.lit (.bool false)], args := [d1, d2] }
  | _ => none }
def SchurGrowsWrongFalsely : Prop := schurGrowsRow.holds Tryz.pinned (OpenSpec.ofChange schurGrowsWrong)

/-- 'quadformlaw10.SchurMinimum': WHATEVER THE INPUT: true; the input reads as it did. -/
def schurMinimumSpec : ChangeSpec := { name := "schurMinimum", fn := fun _ => fun
  | [d1, d2, d3] => { results := [.lit (.bool true)], args := [d1, d2, d3] }
  | _ => none }
def schurMinimumRow : OpenClaim := { program := "ytlhbkhjaajcfgaagreat", sum := "56516a021693943711fac3d545eb71616ae5404688ea80ba37990bb10afb96ab", func := "quadform/quadformlaw10.SchurMinimum", spec := "schurMinimum", unfollowed := true, recurses := true, apart := false }
def SchurMinimumSaid : Prop := schurMinimumRow.holds Tryz.pinned (OpenSpec.ofChange schurMinimumSpec)

/-- ITS FALSE NEIGHBOUR: 'it returns false'. Refute it at one input. -/
def schurMinimumWrong : ChangeSpec := { name := "schurMinimum", fn := fun _ => fun
  | [d1, d2, d3] => { results := [.lit (.bool false)], args := [d1, d2, d3] }
  | _ => none }
def SchurMinimumWrongFalsely : Prop := schurMinimumRow.holds Tryz.pinned (OpenSpec.ofChange schurMinimumWrong)

/-- 'quadformlaw10.SchurSteps': WHATEVER THE INPUT: true; the input reads as it did. -/
def schurStepsSpec : ChangeSpec := { name := "schurSteps", fn := fun _ => fun
  | [d1, d2, d3] => { results := [.lit (.bool true)], args := [d1, d2, d3] }
  | _ => none }
def schurStepsRow : OpenClaim := { program := "ytlhbkhjaajcfgaagreat", sum := "56516a021693943711fac3d545eb71616ae5404688ea80ba37990bb10afb96ab", func := "quadform/quadformlaw10.SchurSteps", spec := "schurSteps", unfollowed := true, recurses := true, apart := false }
def SchurStepsSaid : Prop := schurStepsRow.holds Tryz.pinned (OpenSpec.ofChange schurStepsSpec)

/-- ITS FALSE NEIGHBOUR: 'it returns false'. Refute it at one input. -/
def schurStepsWrong : ChangeSpec := { name := "schurSteps", fn := fun _ => fun
  | [d1, d2, d3] => { results := [.lit (.bool false)], args := [d1, d2, d3] }
  | _ => none }
def SchurStepsWrongFalsely : Prop := schurStepsRow.holds Tryz.pinned (OpenSpec.ofChange schurStepsWrong)

/-- 'quadformlaw10.SchurStepsAny': WHATEVER THE INPUT: true; the input reads as it did. -/
def schurStepsAnySpec : ChangeSpec := { name := "schurStepsAny", fn := fun _ => fun
  | [d1, d2, d3, d4] => { results := [.lit (.bool true)], args := [d1, d2, d3, d4] }
  | _ => none }
def schurStepsAnyRow : OpenClaim := { program := "ytlhbkhjaajcfgaagreat", sum := "56516a021693943711fac3d545eb71616ae5404688ea80ba37990bb10afb96ab", func := "quadform/quadformlaw10.SchurStepsAny", spec := "schurStepsAny", unfollowed := true, recurses := true, apart := false }
def SchurStepsAnySaid : Prop := schurStepsAnyRow.holds Tryz.pinned (OpenSpec.ofChange schurStepsAnySpec)

/-- ITS FALSE NEIGHBOUR: 'it returns false'. Refute it at one input. -/
def schurStepsAnyWrong : ChangeSpec := { name := "schurStepsAny", fn := fun _ => fun
  | [d1, d2, d3, d4] => { results := [.lit (.bool false)], args := [d1, d2, d3, d4] }
  | _ => none }
def SchurStepsAnyWrongFalsely : Prop := schurStepsAnyRow.holds Tryz.pinned (OpenSpec.ofChange schurStepsAnyWrong)

/-- 'quadformlaw10.SchurBudget': WHATEVER THE INPUT: true; the input reads as it did. -/
def schurBudgetSpec : ChangeSpec := { name := "schurBudget", fn := fun _ => fun
  | [d1, d2] => { results := [.lit (.bool true)], args := [d1, d2] }
  | _ => none }
def schurBudgetRow : OpenClaim := { program := "ytlhbkhjaajcfgaagreat", sum := "56516a021693943711fac3d545eb71616ae5404688ea80ba37990bb10afb96ab", func := "quadform/quadformlaw10.SchurBudget", spec := "schurBudget", unfollowed := true, recurses := true, apart := false }
def SchurBudgetSaid : Prop := schurBudgetRow.holds Tryz.pinned (OpenSpec.ofChange schurBudgetSpec)

/-- ITS FALSE NEIGHBOUR: 'it returns false'. Refute it at one input. -/
def schurBudgetWrong : ChangeSpec := { name := "schurBudget", fn := fun _ => fun
  | [d1, d2] => { results := [.lit (.bool false)], args := [d1, d2] }
  | _ => none }
def SchurBudgetWrongFalsely : Prop := schurBudgetRow.holds Tryz.pinned (OpenSpec.ofChange schurBudgetWrong)

/- THE SECOND FORM. 'bulk': how many values and letters a reading holds, each counted each time it is reached (what is shared counts as often as it is met; a slice's spare places count too). A statement '..UptoSaid' is the law's where the arguments, and the package variables that the reading takes, are together of bulk at most 1048576: NARROWER than '..Said'. Prove '..Said' where nothing that the law and all that it calls make is longer than what came in: it says more and counts as full. Else prove '..UptoSaid'. A law counts once. -/
mutual
def uptoBulk {H : Type} : DataW H → Nat
  | .lit (.string bytes) => bytes.length + 1
  | .lit _ => 1
  | .nil => 1
  | .ptr d => uptoBulk d + 1
  | .slice elems spare => uptoBulkAll elems + uptoBulkAll spare + 1
  | .agg parts => uptoBulkAll parts + 1
  | .iface _ d => uptoBulk d + 1
  | .map entries => uptoBulkEntries entries + 1
  | .held _ => 1
def uptoBulkAll {H : Type} : List (DataW H) → Nat
  | [] => 0
  | d :: r => uptoBulk d + uptoBulkAll r
def uptoBulkEntries {H : Type} : List (Lit × DataW H) → Nat
  | [] => 0
  | x :: r => uptoBulkEntry x + uptoBulkEntries r
def uptoBulkEntry {H : Type} : Lit × DataW H → Nat
  | (.string bytes, d) => bytes.length + uptoBulk d + 1
  | (_, d) => uptoBulk d + 1
 end
def uptoSmall : (H : Type) → List (DataW H) → Bool := fun _ ds => decide (uptoBulkAll ds ≤ 1048576)
def OpenSpec.upto (s : _root_.Go.ChangeSpec) : _root_.Go.OpenSpec := { _root_.Go.OpenSpec.ofChange s with cond := some uptoSmall }

/-- 'quadformlaw10.SchurPartial', WHERE WHAT IT READS IS OF BULK AT MOST 1048576: true; the input reads as it did. -/
def schurPartialUptoRow : OpenClaim := { program := "ytlhbkhjaajcfgaagreat", sum := "56516a021693943711fac3d545eb71616ae5404688ea80ba37990bb10afb96ab", func := "quadform/quadformlaw10.SchurPartial", spec := "schurPartial", unfollowed := true, recurses := true, apart := false, narrowed := true }
def SchurPartialUptoSaid : Prop := schurPartialUptoRow.holds Tryz.pinned (OpenSpec.upto schurPartialSpec)

/-- 'quadformlaw10.SchurPartialAny', WHERE WHAT IT READS IS OF BULK AT MOST 1048576: true; the input reads as it did. -/
def schurPartialAnyUptoRow : OpenClaim := { program := "ytlhbkhjaajcfgaagreat", sum := "56516a021693943711fac3d545eb71616ae5404688ea80ba37990bb10afb96ab", func := "quadform/quadformlaw10.SchurPartialAny", spec := "schurPartialAny", unfollowed := true, recurses := true, apart := false, narrowed := true }
def SchurPartialAnyUptoSaid : Prop := schurPartialAnyUptoRow.holds Tryz.pinned (OpenSpec.upto schurPartialAnySpec)

/-- 'quadformlaw10.SchurInterval', WHERE WHAT IT READS IS OF BULK AT MOST 1048576: true; the input reads as it did. -/
def schurIntervalUptoRow : OpenClaim := { program := "ytlhbkhjaajcfgaagreat", sum := "56516a021693943711fac3d545eb71616ae5404688ea80ba37990bb10afb96ab", func := "quadform/quadformlaw10.SchurInterval", spec := "schurInterval", unfollowed := true, recurses := true, apart := false, narrowed := true }
def SchurIntervalUptoSaid : Prop := schurIntervalUptoRow.holds Tryz.pinned (OpenSpec.upto schurIntervalSpec)

/-- 'quadformlaw10.SchurIntervalAny', WHERE WHAT IT READS IS OF BULK AT MOST 1048576: true; the input reads as it did. -/
def schurIntervalAnyUptoRow : OpenClaim := { program := "ytlhbkhjaajcfgaagreat", sum := "56516a021693943711fac3d545eb71616ae5404688ea80ba37990bb10afb96ab", func := "quadform/quadformlaw10.SchurIntervalAny", spec := "schurIntervalAny", unfollowed := true, recurses := true, apart := false, narrowed := true }
def SchurIntervalAnyUptoSaid : Prop := schurIntervalAnyUptoRow.holds Tryz.pinned (OpenSpec.upto schurIntervalAnySpec)

/-- 'quadformlaw10.SchurInside', WHERE WHAT IT READS IS OF BULK AT MOST 1048576: true; the input reads as it did. -/
def schurInsideUptoRow : OpenClaim := { program := "ytlhbkhjaajcfgaagreat", sum := "56516a021693943711fac3d545eb71616ae5404688ea80ba37990bb10afb96ab", func := "quadform/quadformlaw10.SchurInside", spec := "schurInside", unfollowed := true, recurses := true, apart := false, narrowed := true }
def SchurInsideUptoSaid : Prop := schurInsideUptoRow.holds Tryz.pinned (OpenSpec.upto schurInsideSpec)

/-- 'quadformlaw10.SchurGrows', WHERE WHAT IT READS IS OF BULK AT MOST 1048576: true; the input reads as it did. -/
def schurGrowsUptoRow : OpenClaim := { program := "ytlhbkhjaajcfgaagreat", sum := "56516a021693943711fac3d545eb71616ae5404688ea80ba37990bb10afb96ab", func := "quadform/quadformlaw10.SchurGrows", spec := "schurGrows", unfollowed := true, recurses := true, apart := false, narrowed := true }
def SchurGrowsUptoSaid : Prop := schurGrowsUptoRow.holds Tryz.pinned (OpenSpec.upto schurGrowsSpec)

/-- 'quadformlaw10.SchurMinimum', WHERE WHAT IT READS IS OF BULK AT MOST 1048576: true; the input reads as it did. -/
def schurMinimumUptoRow : OpenClaim := { program := "ytlhbkhjaajcfgaagreat", sum := "56516a021693943711fac3d545eb71616ae5404688ea80ba37990bb10afb96ab", func := "quadform/quadformlaw10.SchurMinimum", spec := "schurMinimum", unfollowed := true, recurses := true, apart := false, narrowed := true }
def SchurMinimumUptoSaid : Prop := schurMinimumUptoRow.holds Tryz.pinned (OpenSpec.upto schurMinimumSpec)

/-- 'quadformlaw10.SchurSteps', WHERE WHAT IT READS IS OF BULK AT MOST 1048576: true; the input reads as it did. -/
def schurStepsUptoRow : OpenClaim := { program := "ytlhbkhjaajcfgaagreat", sum := "56516a021693943711fac3d545eb71616ae5404688ea80ba37990bb10afb96ab", func := "quadform/quadformlaw10.SchurSteps", spec := "schurSteps", unfollowed := true, recurses := true, apart := false, narrowed := true }
def SchurStepsUptoSaid : Prop := schurStepsUptoRow.holds Tryz.pinned (OpenSpec.upto schurStepsSpec)

/-- 'quadformlaw10.SchurStepsAny', WHERE WHAT IT READS IS OF BULK AT MOST 1048576: true; the input reads as it did. -/
def schurStepsAnyUptoRow : OpenClaim := { program := "ytlhbkhjaajcfgaagreat", sum := "56516a021693943711fac3d545eb71616ae5404688ea80ba37990bb10afb96ab", func := "quadform/quadformlaw10.SchurStepsAny", spec := "schurStepsAny", unfollowed := true, recurses := true, apart := false, narrowed := true }
def SchurStepsAnyUptoSaid : Prop := schurStepsAnyUptoRow.holds Tryz.pinned (OpenSpec.upto schurStepsAnySpec)

/-- 'quadformlaw10.SchurBudget', WHERE WHAT IT READS IS OF BULK AT MOST 1048576: true; the input reads as it did. -/
def schurBudgetUptoRow : OpenClaim := { program := "ytlhbkhjaajcfgaagreat", sum := "56516a021693943711fac3d545eb71616ae5404688ea80ba37990bb10afb96ab", func := "quadform/quadformlaw10.SchurBudget", spec := "schurBudget", unfollowed := true, recurses := true, apart := false, narrowed := true }
def SchurBudgetUptoSaid : Prop := schurBudgetUptoRow.holds Tryz.pinned (OpenSpec.upto schurBudgetSpec)

end Rows
end Go.Proofs.YtlhbkhjaajcfgaaGreat
