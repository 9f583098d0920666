
/- Whether numbers are signs (utext.Sign, slices.ContainsFunc over its denial). -/
import Derived.Test.YtbghbfgbpdppeaaGreatDoorTextE
namespace Go.Proofs.YtbghbfgbpdppeaaGreatDoor.Tx
open Go.ChangeShapes Go.WideShapes Go.ChangeAt Go.RowKit Go.Lib
set_option linter.unusedVariables false

def isZ (c : Int) : Bool := decide ((0 ≤ c ∧ c < 55296) ∨ (57344 ≤ c ∧ c < 1114112) ∨ (1114240 ≤ c ∧ c ≤ 1114367))
theorem retb {a b : Bool} (h : a = b) : Ending.returned (.bool a) = .returned (.bool b) := by rw [h]
theorem isZ_nat (c : Nat) : isZ (c : Int) = isSg c := by
  unfold isZ isSg
  rw [decide_eq_decide]
  omega

end Go.Proofs.YtbghbfgbpdppeaaGreatDoor.Tx
