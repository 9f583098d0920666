
/- Fields of bits, bit by bit: what the document's answer returns, for every word, place and number of bits. -/
import Derived.Test.YtbghbfgbpdppeaaDoorBitsA
namespace Go.Proofs.YtbghbfgbpdppeaaDoor
open Go.ChangeShapes Go.WideShapes Go.ChangeAt Go.RowKit

theorem bit_int (x j : Nat) (hx : x < 18446744073709551616) : (bits .and .u64 ((x : Int) / 2 ^ j) 1 == 1) = x.testBit j := by
  have hd : x / 2 ^ j < 18446744073709551616 := Nat.lt_of_le_of_lt (Nat.div_le_self _ _) hx
  have h1 := u64_and_nat (x / 2 ^ j) 1 hd (by decide)
  rw [Int.natCast_ediv, castpow] at h1
  rw [show (1 : Int) = ((1 : Nat) : Int) by rfl, h1, Nat.testBit, Nat.shiftRight_eq_div_pow, Nat.and_comm 1]
  have hy : x / 2 ^ j &&& 1 ≤ 1 := Nat.and_le_right
  generalize x / 2 ^ j &&& 1 = y at *
  rcases (show y = 0 ∨ y = 1 by omega) with rfl | rfl <;> rfl

end Go.Proofs.YtbghbfgbpdppeaaDoor
