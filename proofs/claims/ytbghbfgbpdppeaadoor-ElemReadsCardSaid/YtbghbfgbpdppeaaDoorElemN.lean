
/- Weights in a word as numbers: what setting a field does, the word out of its weights, the lowest bits of a number. No condition beyond what each theorem states. -/
import Derived.Test.YtbghbfgbpdppeaaDoorBitsB
import Derived.Test.YtbghbfgbpdppeaaDoorElemM
namespace Go.Proofs.YtbghbfgbpdppeaaDoor
open Go.RowKit Go.Lib

theorem setC_num {x a c v : Nat} (hx : x < 2 ^ 64) (h : a + c ≤ 64) : setC x a c v = 2 ^ a * (2 ^ c * (x / 2 ^ (a + c)) + v % 2 ^ c) + x % 2 ^ a := by
  apply Nat.eq_of_testBit_eq
  intro j
  rw [setC_bit hx h, Nat.testBit_two_pow_mul_add _ (Nat.mod_lt _ (Nat.two_pow_pos a))]
  by_cases h1 : j < a
  · rw [if_pos h1, if_neg (by omega), Nat.testBit_mod_two_pow]
    simp [h1]
  · rw [if_neg h1, Nat.testBit_two_pow_mul_add _ (Nat.mod_lt _ (Nat.two_pow_pos c))]
    by_cases h2 : j < a + c
    · rw [if_pos ⟨by omega, h2⟩, if_pos (by omega), Nat.testBit_mod_two_pow]
      simp [show j - a < c by omega]
    · rw [if_neg (by omega), if_neg (by omega), Nat.testBit_div_two_pow]
      congr 1
      omega
/-- the word of weights -/
def mkW (p s t : Nat) (v : Bool) : Nat := p * 65536 + s * 256 + t * 2 + (if v then 1 else 0)
theorem mkW_of (w : Nat) : mkW (wP w) (wS w) (wT w) (wV w) = w := by
  unfold mkW wP wS wT wV
  by_cases h : w % 2 = 1
  · simp [h]; omega
  · simp [h]; omega
theorem mkW_parts {p s t : Nat} {v : Bool} (hs : s < 256) (ht : t < 128) : wP (mkW p s t v) = p ∧ wS (mkW p s t v) = s ∧ wT (mkW p s t v) = t ∧ wV (mkW p s t v) = v := by
  unfold mkW wP wS wT wV
  cases v <;> simp <;> omega
theorem mkW_lt {p s t : Nat} {v : Bool} (hp : p < 65536) (hs : s < 256) (ht : t < 128) : mkW p s t v < 4294967296 := by
  unfold mkW
  cases v <;> simp <;> omega
theorem get16 {w : Nat} (h : w < 4294967296) : getC w 16 16 = wP w := by
  unfold getC wP
  rw [Nat.shiftRight_eq_div_pow]
  omega
theorem get8 (w : Nat) : getC w 8 8 = wS w := by
  unfold getC wS
  rw [Nat.shiftRight_eq_div_pow]
theorem get7 (w : Nat) : getC w 1 7 = wT w := by
  unfold getC wT
  rw [Nat.shiftRight_eq_div_pow]
theorem set16 {w : Nat} (h : w < 4294967296) (v : Nat) : setC w 16 16 v = mkW (v % 65536) (wS w) (wT w) (wV w) := by
  rw [setC_num (by omega) (by omega)]
  have e := mkW_of w
  unfold mkW wP wS wT wV at *
  have h1 : (2 : Nat) ^ 16 = 65536 := by decide
  have h2 : (2 : Nat) ^ (16 + 16) = 4294967296 := by decide
  rw [h1, h2]
  by_cases h3 : w % 2 = 1
  · simp [h3] at *; omega
  · simp [h3] at *; omega
theorem set8 {w : Nat} (h : w < 4294967296) (v : Nat) : setC w 8 8 v = mkW (wP w) (v % 256) (wT w) (wV w) := by
  rw [setC_num (by omega) (by omega)]
  have e := mkW_of w
  unfold mkW wP wS wT wV at *
  have h1 : (2 : Nat) ^ 8 = 256 := by decide
  have h2 : (2 : Nat) ^ (8 + 8) = 65536 := by decide
  rw [h1, h2]
  by_cases h3 : w % 2 = 1
  · simp [h3] at *; omega
  · simp [h3] at *; omega
theorem set7 {w : Nat} (h : w < 4294967296) (v : Nat) : setC w 1 7 v = mkW (wP w) (wS w) (v % 128) (wV w) := by
  rw [setC_num (by omega) (by omega)]
  have e := mkW_of w
  unfold mkW wP wS wT wV at *
  have h1 : (2 : Nat) ^ 1 = 2 := by decide
  have h2 : (2 : Nat) ^ (1 + 7) = 256 := by decide
  have h4 : (2 : Nat) ^ 7 = 128 := by decide
  rw [h1, h2, h4]
  by_cases h3 : w % 2 = 1
  · simp [h3] at *; omega
  · simp [h3] at *; omega
theorem wP_lt {w : Nat} (h : w < 4294967296) : wP w < 65536 := by unfold wP; omega
theorem wS_lt (w : Nat) : wS w < 256 := by unfold wS; omega
theorem wT_lt (w : Nat) : wT w < 128 := by unfold wT; omega

/-- bits of 32 -/
theorem ofInt_u32 (a : Nat) (ha : a < 4294967296) : (BitVec.ofInt 32 (a : Int)).toNat = a := by
  rw [BitVec.ofInt_natCast, BitVec.toNat_ofNat]; exact Nat.mod_eq_of_lt (by omega)
theorem u32_or_nat (a b : Nat) (ha : a < 4294967296) (hb : b < 4294967296) : bits .or .u32 (a : Int) (b : Int) = ((a ||| b : Nat) : Int) := by
  have hx : a ||| b < 2 ^ 32 := Nat.or_lt_two_pow (by omega) (by omega)
  show IntKind.u32.wrap ((BitVec.ofInt 32 (a : Int) ||| BitVec.ofInt 32 (b : Int)).toNat : Int) = _
  rw [BitVec.toNat_or, ofInt_u32 a ha, ofInt_u32 b hb, u32w]
  omega
theorem u32_and_nat (a b : Nat) (ha : a < 4294967296) (hb : b < 4294967296) : bits .and .u32 (a : Int) (b : Int) = ((a &&& b : Nat) : Int) := by
  have hx : a &&& b < 2 ^ 32 := Nat.and_lt_two_pow _ (by omega)
  show IntKind.u32.wrap ((BitVec.ofInt 32 (a : Int) &&& BitVec.ofInt 32 (b : Int)).toNat : Int) = _
  rw [BitVec.toNat_and, ofInt_u32 a ha, ofInt_u32 b hb, u32w]
  omega
theorem or_add {a b : Nat} (k : Nat) (hb : b < 2 ^ k) : (a * 2 ^ k) ||| b = a * 2 ^ k + b := by
  rw [Nat.mul_comm, Nat.two_pow_add_eq_or_of_lt hb]
theorem and_mask (a k : Nat) : a &&& (2 ^ k - 1) = a % 2 ^ k := Nat.and_two_pow_sub_one_eq_mod a k
/-- the lowest bits of any number of 64 bits -/
theorem i64_mask (v : Int) (k : Nat) (hk : k ≤ 62) : bits .and .i64 v ((2 ^ k - 1 : Nat) : Int) = v % ((2 ^ k : Nat) : Int) := by
  have h1 : (2 : Nat) ^ k ≤ 2 ^ 62 := Nat.pow_le_pow_right (by decide) hk
  have h62 : (2 : Nat) ^ 62 = 4611686018427387904 := by decide
  have hp : 0 < (2 : Nat) ^ k := Nat.two_pow_pos k
  show IntKind.i64.wrap ((BitVec.ofInt 64 v &&& BitVec.ofInt 64 ((2 ^ k - 1 : Nat) : Int)).toNat : Int) = _
  rw [BitVec.toNat_and, BitVec.ofInt_natCast, BitVec.toNat_ofNat, Nat.mod_eq_of_lt (show 2 ^ k - 1 < 2 ^ 64 by omega), and_mask, BitVec.toNat_ofInt]
  have hd : ((2 ^ 64 : Nat) : Int) = ((2 ^ k : Nat) : Int) * ((2 ^ (64 - k) : Nat) : Int) := by
    rw [← Int.natCast_mul, ← Nat.pow_add]
    congr 2
    omega
  have e : (((v % ((2 ^ 64 : Nat) : Int)).toNat % 2 ^ k : Nat) : Int) = v % ((2 ^ k : Nat) : Int) := by
    rw [Int.natCast_emod, Int.toNat_of_nonneg (Int.emod_nonneg _ (by decide)), hd]
    exact Int.emod_emod_of_dvd v ⟨_, rfl⟩
  rw [e]
  have hlt := Int.emod_lt_of_pos v (show (0 : Int) < ((2 ^ k : Nat) : Int) by omega)
  have hge := Int.emod_nonneg v (show ((2 ^ k : Nat) : Int) ≠ 0 by omega)
  rw [IntKind.wrap_i64]
  omega
end Go.Proofs.YtbghbfgbpdppeaaDoor
