
/- Small signs (utext.Fold, umlautref1.Fold): what they return, for every number. -/
import Derived.Test.YtmpnblibbcocpaaDoorTextJ
namespace Go.Proofs.YtmpnblibbcocpaaDoor
open Go.ChangeShapes Go.WideShapes Go.ChangeAt Go.RowKit Go.Lib
set_option linter.unusedVariables false

def foldZ (c : Int) : Int :=
  if (65 ≤ c ∧ c ≤ 90) ∨ (192 ≤ c ∧ c ≤ 222 ∧ c ≠ 215) ∨ (913 ≤ c ∧ c ≤ 937 ∧ c ≠ 930) ∨ (1040 ≤ c ∧ c ≤ 1071) then c + 32
  else if 1024 ≤ c ∧ c ≤ 1039 then c + 80 else c
theorem foldZ_nat (c : Nat) : foldZ c = (fold c : Nat) := by
  unfold foldZ fold
  repeat' split
  all_goals omega
end Go.Proofs.YtmpnblibbcocpaaDoor
