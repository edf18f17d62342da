/-
  No cell of these rows narrows 'for every input' (looked for: loops, veiled, ifaces, maps, wideKeys, modest, calm, conditions, laid).
  DERIVED. THE GIVEN ROWS OF THIS SEAT. 6 by the template 'for every input the law returns true; each argument reads behind the call as it read before'; 0 by the template 'total and deterministic' (their statements: YthmendnhilghhaaGreatTotals.lean).
  GIVEN WITH THE SEED: the statements are not yours to turn. If you find one false, say at which input.
  Laid BY PROGRAM, IN A SANDBOX (cutbox-rows.mjs): the forced cells as the released guide's own fill.sh prints them over the translation a1d15fc8a2fde99e… (all of the seat's roots in one cut). By AI agents, Wed Nov 11 2026. No macro, syntax, notation, axiom, sorry.
-/
import Derived.Test.YthmendnhilghhaaGreatChecked
import GoSem.Claim
import GoSem.ClaimJoined
import GoSem.ClaimMapViews
import Derived.JoinedTies
import Derived.KernelRfl
namespace Go.Proofs.YthmendnhilghhaaGreat
/- THE CELL 'sum', in the pinned program and in every row, IS THE sha256 OF THE DUMP (.gsa) THAT YthmendnhilghhaaGreatProg.lean LOADS. Nothing in Lean hashes anything: it is a label: what it is worth is what the hold of that sum in a sandbox is worth. -/
noncomputable def Tryz.pinned : Pinned := { name := "ythmendnhilghhaagreat", sum := "a1d15fc8a2fde99e531ae4fe26be0496fabd198cda8aa22eb5ebaa734bc82416", checked := Tryz.checked }
namespace Rows
def none {H : Type} : Left H := { results := [], args := [] }

/-- 'quadformlaw39.AverageBetween': WHATEVER THE INPUT: true; the input reads as it did. -/
def averageBetweenSpec : ChangeSpec := { name := "averageBetween", fn := fun _ => fun
  | [d1, d2] => { results := [.lit (.bool true)], args := [d1, d2] }
  | _ => none }
def averageBetweenRow : OpenClaim := { program := "ythmendnhilghhaagreat", sum := "a1d15fc8a2fde99e531ae4fe26be0496fabd198cda8aa22eb5ebaa734bc82416", func := "quadform/quadformlaw39.AverageBetween", spec := "averageBetween", unfollowed := true, recurses := true, apart := false }
def AverageBetweenSaid : Prop := averageBetweenRow.holds Tryz.pinned (OpenSpec.ofChange averageBetweenSpec)

/-- ITS FALSE NEIGHBOUR: 'it returns false'. Refute it at one input. -/
def averageBetweenWrong : ChangeSpec := { name := "averageBetween", fn := fun _ => fun
  | [d1, d2] => { results := [.lit (.bool false)], args := [d1, d2] }
  | _ => none }
def AverageBetweenWrongFalsely : Prop := averageBetweenRow.holds Tryz.pinned (OpenSpec.ofChange averageBetweenWrong)

/-- 'quadformlaw39.AverageFirst': WHATEVER THE INPUT: true; the input reads as it did. -/
def averageFirstSpec : ChangeSpec := { name := "averageFirst", fn := fun _ => fun
  | [d1, d2] => { results := [.lit (.bool true)], args := [d1, d2] }
  | _ => none }
def averageFirstRow : OpenClaim := { program := "ythmendnhilghhaagreat", sum := "a1d15fc8a2fde99e531ae4fe26be0496fabd198cda8aa22eb5ebaa734bc82416", func := "quadform/quadformlaw39.AverageFirst", spec := "averageFirst", unfollowed := true, recurses := true, apart := false }
def AverageFirstSaid : Prop := averageFirstRow.holds Tryz.pinned (OpenSpec.ofChange averageFirstSpec)

/-- ITS FALSE NEIGHBOUR: 'it returns false'. Refute it at one input. -/
def averageFirstWrong : ChangeSpec := { name := "averageFirst", fn := fun _ => fun
  | [d1, d2] => { results := [.lit (.bool false)], args := [d1, d2] }
  | _ => none }
def AverageFirstWrongFalsely : Prop := averageFirstRow.holds Tryz.pinned (OpenSpec.ofChange averageFirstWrong)

/-- 'quadformlaw39.AverageTheta': WHATEVER THE INPUT: true; the input reads as it did. -/
def averageThetaSpec : ChangeSpec := { name := "averageTheta", fn := fun _ => fun
  | [d1, d2, d3, d4, d5, d6, d7] => { results := [.lit (.bool true)], args := [d1, d2, d3, d4, d5, d6, d7] }
  | _ => none }
def averageThetaRow : OpenClaim := { program := "ythmendnhilghhaagreat", sum := "a1d15fc8a2fde99e531ae4fe26be0496fabd198cda8aa22eb5ebaa734bc82416", func := "quadform/quadformlaw39.AverageTheta", spec := "averageTheta", unfollowed := true, recurses := true, apart := false }
def AverageThetaSaid : Prop := averageThetaRow.holds Tryz.pinned (OpenSpec.ofChange averageThetaSpec)

/-- ITS FALSE NEIGHBOUR: 'it returns false'. Refute it at one input. -/
def averageThetaWrong : ChangeSpec := { name := "averageTheta", fn := fun _ => fun
  | [d1, d2, d3, d4, d5, d6, d7] => { results := [.lit (.bool false)], args := [d1, d2, d3, d4, d5, d6, d7] }
  | _ => none }
def AverageThetaWrongFalsely : Prop := averageThetaRow.holds Tryz.pinned (OpenSpec.ofChange averageThetaWrong)

/-- 'quadformlaw39.AverageTotal': WHATEVER THE INPUT: true; the input reads as it did. -/
def averageTotalSpec : ChangeSpec := { name := "averageTotal", fn := fun _ => fun
  | [d1, d2, d3, d4, d5, d6, d7] => { results := [.lit (.bool true)], args := [d1, d2, d3, d4, d5, d6, d7] }
  | _ => none }
def averageTotalRow : OpenClaim := { program := "ythmendnhilghhaagreat", sum := "a1d15fc8a2fde99e531ae4fe26be0496fabd198cda8aa22eb5ebaa734bc82416", func := "quadform/quadformlaw39.AverageTotal", spec := "averageTotal", unfollowed := true, recurses := true, apart := false }
def AverageTotalSaid : Prop := averageTotalRow.holds Tryz.pinned (OpenSpec.ofChange averageTotalSpec)

/-- ITS FALSE NEIGHBOUR: 'it returns false'. Refute it at one input. -/
def averageTotalWrong : ChangeSpec := { name := "averageTotal", fn := fun _ => fun
  | [d1, d2, d3, d4, d5, d6, d7] => { results := [.lit (.bool false)], args := [d1, d2, d3, d4, d5, d6, d7] }
  | _ => none }
def AverageTotalWrongFalsely : Prop := averageTotalRow.holds Tryz.pinned (OpenSpec.ofChange averageTotalWrong)

/-- 'quadformlaw39.AverageLimits': WHATEVER THE INPUT: true; the input reads as it did. -/
def averageLimitsSpec : ChangeSpec := { name := "averageLimits", fn := fun _ => fun
  | [d1, d2] => { results := [.lit (.bool true)], args := [d1, d2] }
  | _ => none }
def averageLimitsRow : OpenClaim := { program := "ythmendnhilghhaagreat", sum := "a1d15fc8a2fde99e531ae4fe26be0496fabd198cda8aa22eb5ebaa734bc82416", func := "quadform/quadformlaw39.AverageLimits", spec := "averageLimits", unfollowed := true, recurses := true, apart := false }
def AverageLimitsSaid : Prop := averageLimitsRow.holds Tryz.pinned (OpenSpec.ofChange averageLimitsSpec)

/-- ITS FALSE NEIGHBOUR: 'it returns false'. Refute it at one input. -/
def averageLimitsWrong : ChangeSpec := { name := "averageLimits", fn := fun _ => fun
  | [d1, d2] => { results := [.lit (.bool false)], args := [d1, d2] }
  | _ => none }
def AverageLimitsWrongFalsely : Prop := averageLimitsRow.holds Tryz.pinned (OpenSpec.ofChange averageLimitsWrong)

/-- 'quadformlaw39.AverageAlone': WHATEVER THE INPUT: true; the input reads as it did. -/
def averageAloneSpec : ChangeSpec := { name := "averageAlone", fn := fun _ => fun
  | [d1, d2] => { results := [.lit (.bool true)], args := [d1, d2] }
  | _ => none }
def averageAloneRow : OpenClaim := { program := "ythmendnhilghhaagreat", sum := "a1d15fc8a2fde99e531ae4fe26be0496fabd198cda8aa22eb5ebaa734bc82416", func := "quadform/quadformlaw39.AverageAlone", spec := "averageAlone", unfollowed := true, recurses := true, apart := false }
def AverageAloneSaid : Prop := averageAloneRow.holds Tryz.pinned (OpenSpec.ofChange averageAloneSpec)

/-- ITS FALSE NEIGHBOUR: 'it returns false'. Refute it at one input. -/
def averageAloneWrong : ChangeSpec := { name := "averageAlone", fn := fun _ => fun
  | [d1, d2] => { results := [.lit (.bool false)], args := [d1, d2] }
  | _ => none }
def AverageAloneWrongFalsely : Prop := averageAloneRow.holds Tryz.pinned (OpenSpec.ofChange averageAloneWrong)

/- THE SECOND FORM. 'bulk': how many values and letters a reading holds, each counted each time it is reached (what is shared counts as often as it is met; a slice's spare places count too). A statement '..UptoSaid' is the law's where the arguments, and the package variables that the reading takes, are together of bulk at most 1048576: NARROWER than '..Said'. Prove '..Said' where nothing that the law and all that it calls make is longer than what came in: it says more and counts as full. Else prove '..UptoSaid'. A law counts once. -/
mutual
def uptoBulk {H : Type} : DataW H → Nat
  | .lit (.string bytes) => bytes.length + 1
  | .lit _ => 1
  | .nil => 1
  | .ptr d => uptoBulk d + 1
  | .slice elems spare => uptoBulkAll elems + uptoBulkAll spare + 1
  | .agg parts => uptoBulkAll parts + 1
  | .iface _ d => uptoBulk d + 1
  | .map entries => uptoBulkEntries entries + 1
  | .held _ => 1
def uptoBulkAll {H : Type} : List (DataW H) → Nat
  | [] => 0
  | d :: r => uptoBulk d + uptoBulkAll r
def uptoBulkEntries {H : Type} : List (Lit × DataW H) → Nat
  | [] => 0
  | x :: r => uptoBulkEntry x + uptoBulkEntries r
def uptoBulkEntry {H : Type} : Lit × DataW H → Nat
  | (.string bytes, d) => bytes.length + uptoBulk d + 1
  | (_, d) => uptoBulk d + 1
 end
def uptoSmall : (H : Type) → List (DataW H) → Bool := fun _ ds => decide (uptoBulkAll ds ≤ 1048576)
def OpenSpec.upto (s : _root_.Go.ChangeSpec) : _root_.Go.OpenSpec := { _root_.Go.OpenSpec.ofChange s with cond := some uptoSmall }

/-- 'quadformlaw39.AverageBetween', WHERE WHAT IT READS IS OF BULK AT MOST 1048576: true; the input reads as it did. -/
def averageBetweenUptoRow : OpenClaim := { program := "ythmendnhilghhaagreat", sum := "a1d15fc8a2fde99e531ae4fe26be0496fabd198cda8aa22eb5ebaa734bc82416", func := "quadform/quadformlaw39.AverageBetween", spec := "averageBetween", unfollowed := true, recurses := true, apart := false, narrowed := true }
def AverageBetweenUptoSaid : Prop := averageBetweenUptoRow.holds Tryz.pinned (OpenSpec.upto averageBetweenSpec)

/-- 'quadformlaw39.AverageFirst', WHERE WHAT IT READS IS OF BULK AT MOST 1048576: true; the input reads as it did. -/
def averageFirstUptoRow : OpenClaim := { program := "ythmendnhilghhaagreat", sum := "a1d15fc8a2fde99e531ae4fe26be0496fabd198cda8aa22eb5ebaa734bc82416", func := "quadform/quadformlaw39.AverageFirst", spec := "averageFirst", unfollowed := true, recurses := true, apart := false, narrowed := true }
def AverageFirstUptoSaid : Prop := averageFirstUptoRow.holds Tryz.pinned (OpenSpec.upto averageFirstSpec)

/-- 'quadformlaw39.AverageTheta', WHERE WHAT IT READS IS OF BULK AT MOST 1048576: true; the input reads as it did. -/
def averageThetaUptoRow : OpenClaim := { program := "ythmendnhilghhaagreat", sum := "a1d15fc8a2fde99e531ae4fe26be0496fabd198cda8aa22eb5ebaa734bc82416", func := "quadform/quadformlaw39.AverageTheta", spec := "averageTheta", unfollowed := true, recurses := true, apart := false, narrowed := true }
def AverageThetaUptoSaid : Prop := averageThetaUptoRow.holds Tryz.pinned (OpenSpec.upto averageThetaSpec)

/-- 'quadformlaw39.AverageTotal', WHERE WHAT IT READS IS OF BULK AT MOST 1048576: true; the input reads as it did. -/
def averageTotalUptoRow : OpenClaim := { program := "ythmendnhilghhaagreat", sum := "a1d15fc8a2fde99e531ae4fe26be0496fabd198cda8aa22eb5ebaa734bc82416", func := "quadform/quadformlaw39.AverageTotal", spec := "averageTotal", unfollowed := true, recurses := true, apart := false, narrowed := true }
def AverageTotalUptoSaid : Prop := averageTotalUptoRow.holds Tryz.pinned (OpenSpec.upto averageTotalSpec)

/-- 'quadformlaw39.AverageLimits', WHERE WHAT IT READS IS OF BULK AT MOST 1048576: true; the input reads as it did. -/
def averageLimitsUptoRow : OpenClaim := { program := "ythmendnhilghhaagreat", sum := "a1d15fc8a2fde99e531ae4fe26be0496fabd198cda8aa22eb5ebaa734bc82416", func := "quadform/quadformlaw39.AverageLimits", spec := "averageLimits", unfollowed := true, recurses := true, apart := false, narrowed := true }
def AverageLimitsUptoSaid : Prop := averageLimitsUptoRow.holds Tryz.pinned (OpenSpec.upto averageLimitsSpec)

/-- 'quadformlaw39.AverageAlone', WHERE WHAT IT READS IS OF BULK AT MOST 1048576: true; the input reads as it did. -/
def averageAloneUptoRow : OpenClaim := { program := "ythmendnhilghhaagreat", sum := "a1d15fc8a2fde99e531ae4fe26be0496fabd198cda8aa22eb5ebaa734bc82416", func := "quadform/quadformlaw39.AverageAlone", spec := "averageAlone", unfollowed := true, recurses := true, apart := false, narrowed := true }
def AverageAloneUptoSaid : Prop := averageAloneUptoRow.holds Tryz.pinned (OpenSpec.upto averageAloneSpec)

end Rows
end Go.Proofs.YthmendnhilghhaaGreat
