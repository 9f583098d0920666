
/- The document's signs of a text (umlautref1.Sign, Signs) and its look whether two lists are one (SameInts): what they return. -/
import Derived.Test.YtbghbfgbpdppeaaGreatDoorTextD
import Derived.Test.YtbghbfgbpdppeaaGreatDoorTextG
namespace Go.Proofs.YtbghbfgbpdppeaaGreatDoor.Tx
open Go.ChangeShapes Go.WideShapes Go.ChangeAt Go.RowKit Go.Lib
set_option linter.unusedVariables false

theorem str_nil (t : ByteArray) : t.toList.isEmpty = decide (t.size = 0) := by
  rw [ByteArray.toList_eq, Bool.eq_iff_iff, List.isEmpty_iff, decide_eq_true_eq]
  have h := bl_len t
  constructor
  · intro e
    rw [← h]
    show t.data.toList.length = 0
    rw [e]
    rfl
  · intro e
    exact List.eq_nil_of_length_eq_zero (by rw [← e]; exact h)

end Go.Proofs.YtbghbfgbpdppeaaGreatDoor.Tx
