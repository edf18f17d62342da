/- Three closed facts on the program's head, without running the kernel over its long head row. -/
import Derived.Test.YtianfagdgdpnpaaRows
import Derived.ProofKit
namespace Go.Qf
open Go Go.Proofs

theorem strip_cut (rest : List (List Char)) : stripLifts liftWords ("cut".toList :: rest) = ([], "cut".toList :: rest) := by kernel_rfl
theorem cutGc : ("cut".toList == "gc".toList) = false := by kernel_rfl
theorem cutSpec : ("cut".toList == "spec".toList) = false := by kernel_rfl
theorem cutCarried : ("cut".toList == "carried".toList) = false := by kernel_rfl
theorem cutCut : ("cut".toList == "cut".toList) = true := by kernel_rfl

section
variable {P : Program} {rest : List (List Char)} (h : behindMainWord (wordsSigns P.initOrder.toList) = "cut".toList :: rest)
include h

theorem make_of : P.make = some .cut := by
  unfold Program.make
  rw [h]
  simp only [cutGc, cutSpec, cutCut, Bool.or_self, Bool.true_or, if_true, Bool.false_eq_true, if_false]

theorem heads_of : P.headLifts = [] := by
  unfold Program.headLifts
  rw [h]
  simp only [strip_cut, ite_self]

theorem final_of : P.liftsFinal = false := by
  unfold Program.liftsFinal
  rw [heads_of h]
  rw [h]
  simp only [List.head?_cons, Option.some_beq_some, cutCarried, Bool.false_and, List.contains_nil, Bool.or_false]

theorem enter_of (h1 : P.laysLater = false) (h2 : P.bearsReflect = false) (h3 : P.doorFits [] = true) : P.mayEnter = true := by
  unfold Program.mayEnter
  rw [h]
  simp only [strip_cut, h1, h2, h3, List.head?_cons, Option.some_beq_some, cutCut, Bool.not_false, Bool.or_true, Bool.and_true, Bool.true_and, List.contains_nil, Bool.false_or]
end

theorem words_of {P : Program} (h : (behindMainWord (wordsSigns P.initOrder.toList)).head? = some "cut".toList) : ∃ rest, behindMainWord (wordsSigns P.initOrder.toList) = "cut".toList :: rest := by
  generalize behindMainWord (wordsSigns P.initOrder.toList) = ws at h
  cases ws with
  | nil => cases h
  | cons c r => exact ⟨r, by simp only [List.head?_cons, Option.some.injEq] at h; rw [h]⟩

set_option maxRecDepth 100000 in
theorem wordsCut : (behindMainWord (wordsSigns Try.prog.initOrder.toList)).head? = some "cut".toList := by
  rw [show Try.prog.initOrder.toList = _ from String.toList_ofList]
  kernel_rfl

theorem laysNot : Try.prog.laysLater = false := by kernel_rfl
theorem reflNot : Try.prog.bearsReflect = false := by kernel_rfl
theorem doorOk : Try.prog.doorFits [] = true := by kernel_rfl
theorem enterOk : Try.prog.mayEnter = true := by
  obtain ⟨rest, h⟩ := words_of wordsCut
  exact enter_of h laysNot reflNot doorOk
theorem finalNo : Try.prog.liftsFinal = false := by
  obtain ⟨rest, h⟩ := words_of wordsCut
  exact final_of h
theorem makeCut : Try.prog.make = some .cut := by
  obtain ⟨rest, h⟩ := words_of wordsCut
  exact make_of h

end Go.Qf
