
/- Plain arithmetic behind the walks of package ints: quotients, shifts, widths, words. No condition beyond what each theorem states. -/
import Derived.Laws.BitsAllLaws
import Derived.WalkKit
import Derived.Test.YtbghbfgbpdppeaaDoorIntsA
namespace Go.Proofs.YtbghbfgbpdppeaaDoor
open Go.RowKit

theorem ret1 {k : IntKind} {a b : Int} (h : a = b) : Ending.returned (.int k a) = .returned (.int k b) := by rw [h]
theorem retb {a b : Bool} (h : a = b) : Ending.returned (.bool a) = .returned (.bool b) := by rw [h]
theorem ret2 {k k' : IntKind} {a b c d : Int} (h : a = b) (h' : c = d) : Ending.returned (.tuple #[.int k a, .int k' c]) = .returned (.tuple #[.int k b, .int k' d]) := by rw [h, h']

theorem bd {x : Int} (h : fits x = true) : -9223372036854775808 ≤ x ∧ x ≤ 9223372036854775807 := (fits_iff x).1 h
theorem fits_mk {x : Int} (h0 : -9223372036854775808 ≤ x) (h1 : x ≤ 9223372036854775807) : fits x = true := (fits_iff x).2 ⟨h0, h1⟩

/-! quotients -/
theorem natAbs_tdiv_le {a b : Int} (hb : 2 ≤ b.natAbs) : 2 * (a.tdiv b).natAbs ≤ a.natAbs := by
  rw [Int.natAbs_tdiv]
  show 2 * (a.natAbs / b.natAbs) ≤ a.natAbs
  have := Nat.div_mul_le_self a.natAbs b.natAbs
  have h2 : a.natAbs / b.natAbs * 2 ≤ a.natAbs / b.natAbs * b.natAbs := Nat.mul_le_mul_left _ hb
  omega
theorem fits_tdiv {a b : Int} (ha : fits a = true) (h0 : b ≠ 0) (h1 : b ≠ -1) : fits (a.tdiv b) = true := by
  have := bd ha
  by_cases hb : b = 1
  · subst hb; simpa using ha
  · have h2 := natAbs_tdiv_le (a := a) (b := b) (by omega)
    apply fits_mk <;> omega
def divV (a b : Int) : Int := if b = 0 then 0 else val1 (a.tdiv b)
def divE (a b : Int) : Int := if b = 0 then 18 else err1 (a.tdiv b)
def modV (a b : Int) : Int := if b = 0 then 0 else a.tmod b
def modE (b : Int) : Int := if b = 0 then 18 else 0
theorem tdiv_neg1 (a : Int) : a.tdiv (-1) = -a := by simp
theorem tmod_neg1 (a : Int) : a.tmod (-1) = 0 := by simp [Int.tmod_def]

/-! shifts -/
theorem wrap64_sub (x : Int) : ∃ k : Int, wrap64 x = x - k * 18446744073709551616 := by
  refine ⟨(x + 9223372036854775808) / 18446744073709551616, ?_⟩
  unfold wrap64; omega
theorem fits_wrap64 (x : Int) : fits (wrap64 x) = true := by
  apply fits_mk <;> (unfold wrap64; omega)
theorem pow_split {n : Nat} (h : n < 64) : (18446744073709551616 : Int) = 2 ^ n * 2 ^ (64 - n) := by
  rw [← Int.pow_add, show n + (64 - n) = 64 by omega]; rfl
theorem shl_back {a : Int} {n : Nat} (h : n < 64) (hq : wrap64 (a * 2 ^ n) / 2 ^ n = a) : fits (a * 2 ^ n) = true := by
  obtain ⟨k, hk⟩ := wrap64_sub (a * 2 ^ n)
  have hp : (0 : Int) < 2 ^ n := Int.pow_pos (by decide)
  have hp2 : (0 : Int) < 2 ^ (64 - n) := Int.pow_pos (by decide)
  have e : wrap64 (a * 2 ^ n) = (a - k * 2 ^ (64 - n)) * 2 ^ n := by
    rw [hk, pow_split h, Int.sub_mul]
    rw [show k * (2 ^ n * 2 ^ (64 - n)) = k * 2 ^ (64 - n) * 2 ^ n by rw [Int.mul_comm ((2 : Int) ^ n), ← Int.mul_assoc]]
  rw [e, Int.mul_ediv_cancel _ (by omega)] at hq
  have hk0 : k * 2 ^ (64 - n) = 0 := by omega
  rw [hk0, Int.sub_zero] at e
  rw [← e]
  exact fits_wrap64 _
theorem shl_fits {a : Int} {n : Nat} (hf : fits (a * 2 ^ n) = true) : wrap64 (a * 2 ^ n) / 2 ^ n = a := by
  have hp : (0 : Int) < 2 ^ n := Int.pow_pos (by decide)
  rw [w64_in hf, Int.mul_ediv_cancel _ (by omega)]
def inSh (n : Int) : Bool := decide (0 ≤ n ∧ n < 64)
def shlV (a n : Int) : Int := if inSh n then val1 (a * 2 ^ n.toNat) else 0
def shlE (a n : Int) : Int := if inSh n then err1 (a * 2 ^ n.toNat) else 19
def shrV (a n : Int) : Int := if inSh n then a / 2 ^ n.toNat else 0
def shrE (n : Int) : Int := if inSh n then 0 else 19
theorem inSh_iff (n : Int) : inSh n = true ↔ (0 ≤ n ∧ n < 64) := by simp [inSh]
theorem inSh_not (n : Int) : inSh n = false ↔ (n < 0 ∨ 63 < n) := by simp [inSh]; omega
theorem fits_less {a : Int} {j n : Nat} (h : j ≤ n) (hf : fits (a * 2 ^ n) = true) : fits (a * 2 ^ j) = true := by
  have hb := bd hf
  have hp : (0 : Int) < 2 ^ j := Int.pow_pos (by decide)
  have e : (2 : Int) ^ n = 2 ^ j * 2 ^ (n - j) := by rw [← Int.pow_add]; congr 1; omega
  have hq : (1 : Int) ≤ 2 ^ (n - j) := by have : (0 : Int) < 2 ^ (n - j) := Int.pow_pos (by decide); omega
  rw [e, ← Int.mul_assoc] at hb
  generalize a * 2 ^ j = x at *
  generalize (2 : Int) ^ (n - j) = q at *
  rcases Int.lt_or_le x 0 with hx | hx
  · have : x * q ≤ x * 1 := Int.mul_le_mul_of_nonpos_left (by omega) hq
    apply fits_mk <;> omega
  · have : x * 1 ≤ x * q := Int.mul_le_mul_of_nonneg_left hq hx
    apply fits_mk <;> omega
theorem pow_succ_mul (a : Int) (j : Nat) : a * 2 ^ (j + 1) = a * 2 ^ j + a * 2 ^ j := by rw [Int.pow_succ, ← Int.mul_assoc]; omega
theorem shr_succ (a : Int) (j : Nat) : a / 2 ^ (j + 1) = a / 2 ^ j / 2 := by rw [Int.pow_succ, Int.ediv_ediv_of_nonneg (Int.le_of_lt (Int.pow_pos (by decide)))]
theorem shr_fits {a : Int} (ha : fits a = true) : ∀ j : Nat, fits (a / 2 ^ j) = true
  | 0 => by simpa using ha
  | j + 1 => by
    have := bd (shr_fits ha j)
    rw [shr_succ]
    apply fits_mk <;> omega
theorem shr_back {a : Int} {n : Nat} : a * 2 ^ n / 2 ^ n = a := by
  have hp : (0 : Int) < 2 ^ n := Int.pow_pos (by decide)
  exact Int.mul_ediv_cancel _ (by omega)

/-! widths -/
theorem i8w (x : Int) : IntKind.i8.wrap x = (x + 128) % 256 - 128 := by simp [IntKind.wrap, IntKind.bits, IntKind.signed]; split <;> omega
theorem i16w (x : Int) : IntKind.i16.wrap x = (x + 32768) % 65536 - 32768 := by simp [IntKind.wrap, IntKind.bits, IntKind.signed]; split <;> omega
theorem i32w (x : Int) : IntKind.i32.wrap x = (x + 2147483648) % 4294967296 - 2147483648 := by simp [IntKind.wrap, IntKind.bits, IntKind.signed]; split <;> omega
theorem u8w (x : Int) : IntKind.u8.wrap x = x % 256 := by simp [IntKind.wrap, IntKind.bits, IntKind.signed]
theorem u16w (x : Int) : IntKind.u16.wrap x = x % 65536 := by simp [IntKind.wrap, IntKind.bits, IntKind.signed]
theorem u32w (x : Int) : IntKind.u32.wrap x = x % 4294967296 := by simp [IntKind.wrap, IntKind.bits, IntKind.signed]
def wrapV (x size : Int) (signed : Bool) : Int :=
  if size = 1 then (if signed then (x + 128) % 256 - 128 else x % 256)
  else if size = 2 then (if signed then (x + 32768) % 65536 - 32768 else x % 65536)
  else if size = 4 then (if signed then (x + 2147483648) % 4294967296 - 2147483648 else x % 4294967296)
  else x
theorem wrapV_wrapV (x size : Int) (s t : Bool) : wrapV (wrapV x size s) size t = wrapV x size t := by
  unfold wrapV
  by_cases h1 : size = 1
  · simp only [h1, if_true]; cases s <;> cases t <;> simp <;> omega
  · simp only [h1, if_false]
    by_cases h2 : size = 2
    · simp only [h2, if_true]; cases s <;> cases t <;> simp <;> omega
    · simp only [h2, if_false]
      by_cases h4 : size = 4
      · simp only [h4, if_true]; cases s <;> cases t <;> simp <;> omega
      · simp only [h4, if_false]
theorem fits_wrapV {x : Int} (size : Int) (s : Bool) (hx : fits x = true) : fits (wrapV x size s) = true := by
  have := bd hx
  unfold wrapV
  repeat' split
  all_goals (apply fits_mk <;> omega)
def fitV (x size : Int) (s : Bool) : Int := if wrapV x size s = x then x else 0
def fitE (x size : Int) (s : Bool) : Int := if wrapV x size s = x then 0 else 17

/-! words -/
theorem u64w (x : Int) : IntKind.u64.wrap x = x % 18446744073709551616 := by simp [IntKind.wrap, IntKind.bits, IntKind.signed]
theorem nat_top (x : Nat) (h : x < 18446744073709551616) : x ^^^ 9223372036854775808 = if x < 9223372036854775808 then x + 9223372036854775808 else x - 9223372036854775808 := by
  split
  · rename_i hx
    apply Nat.eq_of_testBit_eq
    intro i
    rw [Nat.testBit_xor]
    rw [show x + 9223372036854775808 = 2 ^ 63 * 1 + x by omega, Nat.two_pow_add_eq_or_of_lt (by omega) 1, Nat.testBit_or]
    rw [show (9223372036854775808 : Nat) = 2 ^ 63 by rfl, Nat.mul_one]
    rw [Nat.testBit_two_pow]
    by_cases hi : 63 = i
    · subst hi
      rw [Nat.testBit_lt_two_pow (by omega)]
      simp
    · simp [hi]
  · rename_i hx
    obtain ⟨y, hy⟩ : ∃ y, x = y + 9223372036854775808 := ⟨x - 9223372036854775808, by omega⟩
    subst hy
    rw [show y + 9223372036854775808 - 9223372036854775808 = y by omega]
    apply Nat.eq_of_testBit_eq
    intro i
    rw [Nat.testBit_xor]
    rw [show y + 9223372036854775808 = 2 ^ 63 * 1 + y by omega, Nat.two_pow_add_eq_or_of_lt (by omega) 1, Nat.testBit_or]
    rw [show (9223372036854775808 : Nat) = 2 ^ 63 by rfl, Nat.mul_one, Nat.testBit_two_pow]
    by_cases hi : 63 = i
    · subst hi
      rw [Nat.testBit_lt_two_pow (by omega)]
      simp
    · simp [hi]
theorem xor_top (x : Int) (h0 : 0 ≤ x) (h1 : x < 18446744073709551616) : bits .xor .u64 x 9223372036854775808 = if x < 9223372036854775808 then x + 9223372036854775808 else x - 9223372036854775808 := by
  rw [u64_xor x _ h0 h1 (by decide) (by decide)]
  have := nat_top x.toNat (by omega)
  rw [show (9223372036854775808 : Int).toNat = 9223372036854775808 by rfl, this]
  split <;> split <;> omega
end Go.Proofs.YtbghbfgbpdppeaaDoor
