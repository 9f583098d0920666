
/- Fields of bits in words of 64 bits: plain arithmetic. No condition beyond what each theorem states. -/
import Derived.Laws.BitsAllLaws
import Derived.Test.YtbghbfgbpdppeaaDoorIntsM
namespace Go.Proofs.YtbghbfgbpdppeaaDoor
open Go.RowKit

/-- the mask of c bits from bit a on -/
def msk (a c : Nat) : Nat := (2 ^ c - 1) <<< a
def getC (x a c : Nat) : Nat := (x >>> a) % 2 ^ c
def setC (x a c v : Nat) : Nat := (x &&& (2 ^ 64 - (msk a c + 1))) ||| ((v <<< a) % 2 ^ 64 &&& msk a c)

theorem msk_bit (a c j : Nat) : (msk a c).testBit j = (decide (a ≤ j) && decide (j < a + c)) := by
  unfold msk
  rw [Nat.testBit_shiftLeft, Nat.testBit_two_pow_sub_one]
  by_cases h : a ≤ j
  · simp [h]; omega
  · simp [h]
theorem msk_lt {a c : Nat} (h : a + c ≤ 64) : msk a c < 2 ^ 64 := by
  apply Nat.lt_pow_two_of_testBit
  intro j hj
  rw [msk_bit]
  simp; omega
theorem getC_bit (x a c j : Nat) : (getC x a c).testBit j = (decide (j < c) && x.testBit (a + j)) := by
  unfold getC
  rw [Nat.testBit_mod_two_pow, Nat.testBit_shiftRight]
theorem bit_hi {x j : Nat} (hx : x < 2 ^ 64) (hj : 64 ≤ j) : x.testBit j = false :=
  Nat.testBit_lt_two_pow (Nat.lt_of_lt_of_le hx (Nat.pow_le_pow_right (by decide) hj))
theorem setC_bit {x a c v : Nat} (hx : x < 2 ^ 64) (h : a + c ≤ 64) (j : Nat) : (setC x a c v).testBit j = if a ≤ j ∧ j < a + c then v.testBit (j - a) else x.testBit j := by
  unfold setC
  rw [Nat.testBit_or, Nat.testBit_and, Nat.testBit_and, Nat.testBit_two_pow_sub_succ (msk_lt h), msk_bit, Nat.testBit_mod_two_pow, Nat.testBit_shiftLeft]
  by_cases hj : j < 64
  · by_cases h1 : a ≤ j
    · by_cases h2 : j < a + c
      · simp [hj, h1, h2]
      · simp [hj, h1, h2]
    · simp [hj, h1]
  · have hh := bit_hi (j := j) hx (by omega)
    have h2 : ¬ j < a + c := by omega
    simp [hj, hh, h2]
theorem getC_lt (x a : Nat) {c : Nat} (h : c ≤ 64) : getC x a c < 2 ^ 64 :=
  Nat.lt_of_lt_of_le (Nat.mod_lt _ (Nat.two_pow_pos c)) (Nat.pow_le_pow_right (by decide) h)
theorem setC_lt {x a c v : Nat} (hx : x < 2 ^ 64) (h : a + c ≤ 64) : setC x a c v < 2 ^ 64 := by
  apply Nat.lt_pow_two_of_testBit
  intro j hj
  rw [setC_bit hx h, if_neg (by omega)]
  exact bit_hi hx hj

/-- bits that reach beyond the word: as many as there are -/
theorem msk_of (a n : Nat) (ha : a < 64) : ((2 ^ n - 1) * 2 ^ a) % 18446744073709551616 = msk a (min n (64 - a)) := by
  apply Nat.eq_of_testBit_eq
  intro j
  rw [show (18446744073709551616 : Nat) = 2 ^ 64 by rfl, Nat.testBit_mod_two_pow, ← Nat.shiftLeft_eq, Nat.testBit_shiftLeft, Nat.testBit_two_pow_sub_one, msk_bit]
  by_cases h1 : a ≤ j
  · by_cases h2 : j < 64
    · simp [h1, h2]; omega
    · simp [h1, h2]; omega
  · simp [h1]
theorem get_of (x a c : Nat) : (x &&& msk a c) / 2 ^ a = getC x a c := by
  apply Nat.eq_of_testBit_eq
  intro j
  rw [← Nat.shiftRight_eq_div_pow, Nat.testBit_shiftRight, Nat.testBit_and, msk_bit, getC_bit]
  by_cases h1 : j < c
  · simp [h1]
  · simp [h1]
theorem set_of (x a c v : Nat) : (x &&& (18446744073709551615 - msk a c)) ||| ((v * 2 ^ a) % 18446744073709551616 &&& msk a c) = setC x a c v := by
  unfold setC
  rw [Nat.shiftLeft_eq, show (2 : Nat) ^ 64 - (msk a c + 1) = 18446744073709551615 - msk a c by rw [show (2 : Nat) ^ 64 = 18446744073709551616 by rfl]; omega]
theorem get_zero (x a : Nat) : getC x a 0 = 0 := by simp [getC, Nat.mod_one]
theorem set_zero {x : Nat} (a v : Nat) (hx : x < 2 ^ 64) (ha : a ≤ 64) : setC x a 0 v = x := by
  apply Nat.eq_of_testBit_eq
  intro j
  rw [setC_bit hx (by omega), if_neg (by omega)]
theorem pow_bit (k j : Nat) : (2 ^ k).testBit j = decide (k = j) := Nat.testBit_two_pow
theorem get_yes (x a k : Nat) (h : x.testBit (a + k) = true) : getC x a (k + 1) = getC x a k ||| 2 ^ k := by
  apply Nat.eq_of_testBit_eq
  intro j
  rw [Nat.testBit_or, getC_bit, getC_bit, pow_bit]
  by_cases h1 : j = k
  · subst h1; simp [h]
  · by_cases h2 : j < k
    · have h3 : j < k + 1 := by omega
      have h4 : ¬ k = j := by omega
      simp [h2, h3, h4]
    · have h3 : ¬ j < k + 1 := by omega
      have h4 : ¬ k = j := by omega
      simp [h2, h3, h4]
theorem get_no (x a k : Nat) (h : x.testBit (a + k) = false) : getC x a (k + 1) = getC x a k := by
  apply Nat.eq_of_testBit_eq
  intro j
  rw [getC_bit, getC_bit]
  by_cases h1 : j = k
  · subst h1; simp [h]
  · by_cases h2 : j < k
    · have h3 : j < k + 1 := by omega
      simp [h2, h3]
    · have h3 : ¬ j < k + 1 := by omega
      simp [h2, h3]
theorem not_pow_bit {k : Nat} (hk : k < 64) (j : Nat) : (18446744073709551615 - 2 ^ k).testBit j = (decide (j < 64) && !decide (k = j)) := by
  have hp : 2 ^ k < 2 ^ 64 := Nat.pow_lt_pow_right (by decide) hk
  rw [show 18446744073709551615 - 2 ^ k = 2 ^ 64 - (2 ^ k + 1) by rw [show (2 : Nat) ^ 64 = 18446744073709551616 by rfl]; omega, Nat.testBit_two_pow_sub_succ hp, pow_bit]
theorem set_no {x a k v : Nat} (hx : x < 2 ^ 64) (h : a + k < 64) (hb : v.testBit k = false) : setC x a (k + 1) v = setC x a k v &&& (18446744073709551615 - 2 ^ (a + k)) := by
  apply Nat.eq_of_testBit_eq
  intro j
  rw [Nat.testBit_and, not_pow_bit h, setC_bit hx (by omega), setC_bit hx (by omega)]
  by_cases h1 : j = a + k
  · subst h1
    simp [show a ≤ a + k by omega, hb]
  · by_cases h64 : j < 64
    · have h4 : ¬ a + k = j := by omega
      by_cases h2 : a ≤ j ∧ j < a + k
      · have h3 : a ≤ j ∧ j < a + (k + 1) := by omega
        rw [if_pos h2, if_pos h3]; simp [h64, h4]
      · have h3 : ¬ (a ≤ j ∧ j < a + (k + 1)) := by omega
        rw [if_neg h2, if_neg h3]; simp [h64, h4]
    · have h2 : ¬ (a ≤ j ∧ j < a + k) := by omega
      have h3 : ¬ (a ≤ j ∧ j < a + (k + 1)) := by omega
      rw [if_neg h2, if_neg h3, bit_hi hx (by omega)]; simp
theorem set_yes {x a k v : Nat} (hx : x < 2 ^ 64) (h : a + k < 64) (hb : v.testBit k = true) : setC x a (k + 1) v = (setC x a k v &&& (18446744073709551615 - 2 ^ (a + k))) ||| 2 ^ (a + k) := by
  apply Nat.eq_of_testBit_eq
  intro j
  rw [Nat.testBit_or, Nat.testBit_and, not_pow_bit h, pow_bit, setC_bit hx (by omega), setC_bit hx (by omega)]
  by_cases h1 : j = a + k
  · subst h1
    simp [show a ≤ a + k by omega, hb]
  · have h4 : ¬ a + k = j := by omega
    by_cases h64 : j < 64
    · by_cases h2 : a ≤ j ∧ j < a + k
      · have h3 : a ≤ j ∧ j < a + (k + 1) := by omega
        rw [if_pos h2, if_pos h3]; simp [h64, h4]
      · have h3 : ¬ (a ≤ j ∧ j < a + (k + 1)) := by omega
        rw [if_neg h2, if_neg h3]; simp [h64, h4]
    · have h2 : ¬ (a ≤ j ∧ j < a + k) := by omega
      have h3 : ¬ (a ≤ j ∧ j < a + (k + 1)) := by omega
      rw [if_neg h2, if_neg h3, bit_hi hx (by omega)]; simp [h4]

/-! what the laws ask -/
theorem get_set {x a c v : Nat} (hx : x < 2 ^ 64) (h : a + c ≤ 64) : getC (setC x a c v) a c = getC v 0 c := by
  apply Nat.eq_of_testBit_eq
  intro j
  rw [getC_bit, getC_bit, setC_bit hx h]
  by_cases h1 : j < c
  · simp [h1]
  · simp [h1]
theorem set_get {x a c v : Nat} (hx : x < 2 ^ 64) (h : a + c ≤ 64) : setC (setC x a c v) a c (getC x a c) = x := by
  apply Nat.eq_of_testBit_eq
  intro j
  rw [setC_bit (setC_lt hx h) h, getC_bit, setC_bit hx h]
  by_cases h1 : a ≤ j ∧ j < a + c
  · rw [if_pos h1]
    have h2 : j - a < c := by omega
    have h3 : a + (j - a) = j := by omega
    simp [h2, h3]
  · rw [if_neg h1, if_neg h1]

/-- the field's bits: none where the place or the number is none -/
def cnt (at_ n : Int) : Nat := if 0 ≤ at_ ∧ at_ < 64 ∧ 1 ≤ n then min n.toNat (64 - at_.toNat) else 0
theorem cnt_le (at_ n : Int) : at_.toNat + cnt at_ n ≤ 64 ∨ cnt at_ n = 0 := by unfold cnt; split <;> omega
theorem cnt_le64 (at_ n : Int) : cnt at_ n ≤ 64 := by unfold cnt; split <;> omega
def getV (x : Nat) (at_ n : Int) : Nat := getC x at_.toNat (cnt at_ n)
def setV (x : Nat) (at_ n : Int) (v : Nat) : Nat := if 0 ≤ at_ ∧ at_ < 64 ∧ 1 ≤ n then setC x at_.toNat (cnt at_ n) v else x
end Go.Proofs.YtbghbfgbpdppeaaDoor
