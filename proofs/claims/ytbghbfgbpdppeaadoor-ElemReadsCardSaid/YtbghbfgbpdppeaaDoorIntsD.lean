
/- The document's shifts, step by step; products; the look of one answer against the other: what each function returns, for every number of 64 bits. -/
import Derived.Test.YtbghbfgbpdppeaaDoorIntsC
import Derived.Test.YtbghbfgbpdppeaaDoorShelf
namespace Go.Proofs.YtbghbfgbpdppeaaDoor
open Go.ChangeShapes Go.WideShapes Go.ChangeAt Go.RowKit

theorem half_neg (v : Int) (h : v < 0) : (v - 1).tdiv 2 = v / 2 := by
  rw [show v - 1 = -(1 - v) by omega, Int.neg_tdiv, Int.tdiv_eq_ediv_of_nonneg (by omega)]
  omega
theorem half_even (v : Int) (h : v < 0) (h2 : v.tmod 2 = 0) : v.tdiv 2 = v / 2 := by
  rw [show v = -(-v) by omega, Int.neg_tmod, Int.tmod_eq_emod_of_nonneg (by omega)] at h2
  rw [show v.tdiv 2 = -((-v).tdiv 2) by rw [Int.neg_tdiv]; omega, Int.tdiv_eq_ediv_of_nonneg (by omega)]
  omega

/-! products -/
theorem natAbs_cases {a b : Int} (hd : (a < 0 ∧ ¬ b < 0) ∨ (¬ a < 0 ∧ b < 0)) : a * b = -((a.natAbs * b.natAbs : Nat) : Int) := by
  rw [Int.natCast_mul]
  rcases hd with ⟨h1, h2⟩ | ⟨h1, h2⟩
  · rw [show (a.natAbs : Int) = -a by omega, show (b.natAbs : Int) = b by omega, Int.neg_mul, Int.neg_neg]
  · rw [show (a.natAbs : Int) = a by omega, show (b.natAbs : Int) = -b by omega, Int.mul_neg, Int.neg_neg]
theorem natAbs_same {a b : Int} (hd : (a < 0 ∧ b < 0) ∨ (¬ a < 0 ∧ ¬ b < 0)) : a * b = ((a.natAbs * b.natAbs : Nat) : Int) := by
  rw [Int.natCast_mul]
  rcases hd with ⟨h1, h2⟩ | ⟨h1, h2⟩
  · rw [show (a.natAbs : Int) = -a by omega, show (b.natAbs : Int) = -b by omega, Int.neg_mul_neg]
  · rw [show (a.natAbs : Int) = a by omega, show (b.natAbs : Int) = b by omega]

end Go.Proofs.YtbghbfgbpdppeaaDoor
