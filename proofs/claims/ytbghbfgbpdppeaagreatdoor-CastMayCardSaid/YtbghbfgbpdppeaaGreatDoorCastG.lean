
/- Bits of two numbers of 64 bits, without any program: xored twice it is what it was; AND and OR together make the sum; OR less AND is XOR. -/
import Derived.Test.YtbghbfgbpdppeaaGreatDoorIntsM
import Derived.Laws.BitsAllLaws
namespace Go.Proofs.YtbghbfgbpdppeaaGreatDoor
open Go.RowKit

theorem and_or_sum : ∀ (n x y : Nat), x ≤ n → (x &&& y) + (x ||| y) = x + y := by
  intro n
  induction n with
  | zero =>
    intro x y h
    obtain rfl : x = 0 := by omega
    simp
  | succ n ih =>
    intro x y h
    by_cases hx : x = 0
    · subst hx; simp
    · have i := ih (x / 2) (y / 2) (by omega)
      have a1 : (x &&& y) / 2 = x / 2 &&& y / 2 := Nat.and_div_two
      have a2 : (x ||| y) / 2 = x / 2 ||| y / 2 := Nat.or_div_two
      have b1 : (x &&& y) % 2 = 1 ↔ x % 2 = 1 ∧ y % 2 = 1 := Nat.and_mod_two_eq_one
      have b2 : (x ||| y) % 2 = 1 ↔ x % 2 = 1 ∨ y % 2 = 1 := Nat.or_mod_two_eq_one
      rw [← a1, ← a2] at i
      generalize (x &&& y) = p at *
      generalize (x ||| y) = q at *
      omega
theorem xor_and_or : ∀ (n x y : Nat), x ≤ n → (x ^^^ y) + (x &&& y) = (x ||| y) := by
  intro n
  induction n with
  | zero =>
    intro x y h
    obtain rfl : x = 0 := by omega
    simp
  | succ n ih =>
    intro x y h
    by_cases hx : x = 0
    · subst hx; simp
    · have i := ih (x / 2) (y / 2) (by omega)
      have a1 : (x &&& y) / 2 = x / 2 &&& y / 2 := Nat.and_div_two
      have a2 : (x ||| y) / 2 = x / 2 ||| y / 2 := Nat.or_div_two
      have a3 : (x ^^^ y) / 2 = x / 2 ^^^ y / 2 := Nat.xor_div_two
      have b1 : (x &&& y) % 2 = 1 ↔ x % 2 = 1 ∧ y % 2 = 1 := Nat.and_mod_two_eq_one
      have b2 : (x ||| y) % 2 = 1 ↔ x % 2 = 1 ∨ y % 2 = 1 := Nat.or_mod_two_eq_one
      have b3 : (x ^^^ y) % 2 = 1 ↔ ¬ ((x % 2 = 1) ↔ (y % 2 = 1)) := Nat.xor_mod_two_eq_one
      rw [← a1, ← a2, ← a3] at i
      generalize (x &&& y) = p at *
      generalize (x ||| y) = q at *
      generalize (x ^^^ y) = r at *
      omega

def w2n (a : Int) : Nat := (a % 18446744073709551616).toNat
theorem ofInt_w2n (a : Int) : (BitVec.ofInt 64 a).toNat = w2n a := by
  rw [BitVec.toNat_ofInt]; rfl
theorem w2n_lt (a : Int) : w2n a < 18446744073709551616 := by unfold w2n; omega
theorem w2n_back (a : Int) (h : fits a = true) : wrap64 (w2n a : Int) = a := by
  have := bd h
  unfold w2n wrap64
  omega
theorem w2n_wrap (n : Nat) (h : n < 18446744073709551616) : w2n (wrap64 (n : Int)) = n := by
  unfold w2n wrap64
  omega
theorem xor_n (a b : Int) : bits .xor .i64 a b = wrap64 ((w2n a ^^^ w2n b : Nat) : Int) := by
  show IntKind.i64.wrap ((BitVec.ofInt 64 a ^^^ BitVec.ofInt 64 b).toNat : Int) = _
  rw [BitVec.toNat_xor, ofInt_w2n, ofInt_w2n, IntKind.wrap_i64]; simp only [wrap64]
theorem and_n (a b : Int) : bits .and .i64 a b = wrap64 ((w2n a &&& w2n b : Nat) : Int) := by
  show IntKind.i64.wrap ((BitVec.ofInt 64 a &&& BitVec.ofInt 64 b).toNat : Int) = _
  rw [BitVec.toNat_and, ofInt_w2n, ofInt_w2n, IntKind.wrap_i64]; simp only [wrap64]
theorem or_n (a b : Int) : bits .or .i64 a b = wrap64 ((w2n a ||| w2n b : Nat) : Int) := by
  show IntKind.i64.wrap ((BitVec.ofInt 64 a ||| BitVec.ofInt 64 b).toNat : Int) = _
  rw [BitVec.toNat_or, ofInt_w2n, ofInt_w2n, IntKind.wrap_i64]; simp only [wrap64]
theorem xor_lt (a b : Int) : w2n a ^^^ w2n b < 18446744073709551616 := Nat.xor_lt_two_pow (n := 64) (w2n_lt a) (w2n_lt b)
theorem xor_twice (a b : Int) (ha : fits a = true) : bits .xor .i64 (bits .xor .i64 a b) b = a := by
  rw [xor_n (bits .xor .i64 a b) b, xor_n a b, w2n_wrap _ (xor_lt a b), Nat.xor_assoc, Nat.xor_self, Nat.xor_zero, w2n_back a ha]
theorem bits_sum (a b : Int) : wrap64 (bits .and .i64 a b + bits .or .i64 a b) = wrap64 (a + b) := by
  rw [and_n, or_n]
  have h := and_or_sum _ (w2n a) (w2n b) (Nat.le_refl _)
  generalize (w2n a &&& w2n b) = p at *
  generalize (w2n a ||| w2n b) = q at *
  unfold w2n at h
  unfold wrap64
  omega
theorem bits_diff (a b : Int) : wrap64 (bits .or .i64 a b - bits .and .i64 a b) = bits .xor .i64 a b := by
  rw [and_n, or_n, xor_n]
  have h := xor_and_or _ (w2n a) (w2n b) (Nat.le_refl _)
  generalize (w2n a &&& w2n b) = p at *
  generalize (w2n a ||| w2n b) = q at *
  generalize (w2n a ^^^ w2n b) = r at *
  unfold wrap64
  omega
end Go.Proofs.YtbghbfgbpdppeaaGreatDoor
