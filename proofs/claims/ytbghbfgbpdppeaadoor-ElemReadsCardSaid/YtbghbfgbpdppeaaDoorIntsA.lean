
/- Sums, differences, negatives of package ints and of the document's answer: what each returns for every two numbers of 64 bits. -/
import Derived.Test.YtbghbfgbpdppeaaDoorRows
import Derived.WalkKit
import Derived.ProofKit
import Derived.OpenShut
import Derived.Outline
import Derived.WalkLawsBesides
import Derived.Lib.Hide
namespace Go.Proofs.YtbghbfgbpdppeaaDoor
open Go.ChangeShapes Go.WideShapes Go.ChangeAt Go.RowKit

/-- does it fit 64 bits -/
def fits (x : Int) : Bool := decide (-9223372036854775808 ≤ x ∧ x ≤ 9223372036854775807)
def val1 (x : Int) : Int := if fits x then x else 0
def err1 (x : Int) : Int := if fits x then 0 else 17
theorem fits_iff (x : Int) : fits x = true ↔ (-9223372036854775808 ≤ x ∧ x ≤ 9223372036854775807) := by simp [fits]
theorem fits_not (x : Int) : fits x = false ↔ (x < -9223372036854775808 ∨ 9223372036854775807 < x) := by simp [fits]; omega
theorem val1_yes {x : Int} (h : fits x = true) : val1 x = x := by simp [val1, h]
theorem err1_yes {x : Int} (h : fits x = true) : err1 x = 0 := by simp [err1, h]
theorem val1_no {x : Int} (h : fits x = false) : val1 x = 0 := by simp [val1, h]
theorem err1_no {x : Int} (h : fits x = false) : err1 x = 17 := by simp [err1, h]
theorem val1_fits (x : Int) : fits (val1 x) = true := by
  unfold val1
  split
  · assumption
  · decide +kernel
theorem w64_in {x : Int} (h : fits x = true) : wrap64 x = x := by
  have := (fits_iff x).1 h
  unfold wrap64; omega
theorem w64_hi {x : Int} (h : 9223372036854775807 < x) (h2 : x ≤ 18446744073709551615) : wrap64 x = x - 18446744073709551616 := by unfold wrap64; omega
theorem w64_lo {x : Int} (h : x < -9223372036854775808) (h2 : -18446744073709551616 ≤ x) : wrap64 x = x + 18446744073709551616 := by unfold wrap64; omega

end Go.Proofs.YtbghbfgbpdppeaaDoor
