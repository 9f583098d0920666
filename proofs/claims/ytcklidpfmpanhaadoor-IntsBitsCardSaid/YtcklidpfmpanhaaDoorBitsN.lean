/- How many bits a word has: counted one by one, or by striking the lowest again and again. Plain arithmetic. -/
import Derived.Test.YtcklidpfmpanhaaDoorBitsM
namespace Go.Proofs.YtcklidpfmpanhaaDoor

/-- the bits below k -/
def pc (x : Nat) : Nat → Nat
  | 0 => 0
  | k + 1 => pc x k + (if x.testBit k then 1 else 0)
theorem pc_le (x : Nat) : ∀ k, pc x k ≤ k
  | 0 => Nat.le_refl _
  | k + 1 => by have := pc_le x k; unfold pc; split <;> omega
theorem pc_zero : ∀ k, pc 0 k = 0
  | 0 => rfl
  | k + 1 => by rw [pc, pc_zero k]; simp

/-- the lowest bit struck -/
theorem strike : ∀ (n x : Nat), x < 2 ^ n → 0 < x → ∃ j, j < n ∧ x.testBit j = true ∧ ∀ i, (x &&& (x - 1)).testBit i = (x.testBit i && !decide (j = i))
  | 0, x, h, h0 => by simp at h; omega
  | n + 1, x, h, h0 => by
    rcases Nat.mod_two_eq_zero_or_one x with h2 | h2
    · have hy : x / 2 < 2 ^ n := by rw [Nat.pow_succ] at h; omega
      obtain ⟨j, hj, hb, hi⟩ := strike n (x / 2) hy (by omega)
      refine ⟨j + 1, by omega, by rw [Nat.testBit_succ]; exact hb, fun i => ?_⟩
      cases i with
      | zero =>
        rw [Nat.testBit_and]
        have : x.testBit 0 = false := by rw [Nat.testBit_zero]; simp [h2]
        simp [this]
      | succ i =>
        have e : (x - 1) / 2 = x / 2 - 1 := by omega
        have h1 := hi i
        rw [Nat.testBit_and] at h1 ⊢
        rw [Nat.testBit_succ, Nat.testBit_succ, e]
        simpa using h1
    · refine ⟨0, by omega, by rw [Nat.testBit_zero]; simp [h2], fun i => ?_⟩
      rw [Nat.testBit_and]
      cases i with
      | zero =>
        have : (x - 1).testBit 0 = false := by rw [Nat.testBit_zero]; simp; omega
        simp [this]
      | succ i =>
        have e : (x - 1) / 2 = x / 2 := by omega
        rw [Nat.testBit_succ, Nat.testBit_succ, e]
        simp
theorem pc_strike {x y j : Nat} (hb : x.testBit j = true) (hi : ∀ i, y.testBit i = (x.testBit i && !decide (j = i))) : ∀ k, pc x k = pc y k + (if j < k then 1 else 0)
  | 0 => rfl
  | k + 1 => by
    have ih := pc_strike hb hi k
    unfold pc
    rw [ih, hi k]
    by_cases h1 : j = k
    · subst h1
      simp [hb]
    · by_cases h2 : j < k
      · have h3 : j < k + 1 := by omega
        simp [h1, h2, h3]; omega
      · have h3 : ¬ j < k + 1 := by omega
        simp [h1, h2, h3]
theorem pc_step {x : Nat} (h0 : 0 < x) (hx : x < 2 ^ 64) : pc x 64 = pc (x &&& (x - 1)) 64 + 1 := by
  obtain ⟨j, hj, hb, hi⟩ := strike 64 x hx h0
  rw [pc_strike hb hi 64, if_pos hj]
theorem and_less {x : Nat} (h0 : 0 < x) : x &&& (x - 1) < x := by
  have := Nat.and_le_right (n := x) (m := x - 1)
  omega

/-- the first k bits put back, c more -/
theorem put_more {x k c : Nat} (hx : x < 2 ^ 64) (h : k + c ≤ 64) : setC (x % 2 ^ k) k c (getC x k c) = x % 2 ^ (k + c) := by
  have hlt : x % 2 ^ k < 2 ^ 64 := Nat.lt_of_le_of_lt (Nat.mod_le _ _) hx
  apply Nat.eq_of_testBit_eq
  intro j
  rw [setC_bit hlt h, getC_bit, Nat.testBit_mod_two_pow, Nat.testBit_mod_two_pow]
  by_cases h1 : k ≤ j ∧ j < k + c
  · rw [if_pos h1]
    have h2 : j - k < c := by omega
    have h3 : k + (j - k) = j := by omega
    have h4 : j < k + c := by omega
    simp [h2, h3, h4]
  · rw [if_neg h1]
    by_cases h2 : j < k
    · have h3 : j < k + c := by omega
      simp [h2, h3]
    · have h3 : ¬ j < k + c := by omega
      simp [h2, h3]
theorem get_one (x k : Nat) : getC x k 1 = if x.testBit k then 1 else 0 := by
  unfold getC
  rw [Nat.testBit, Nat.and_comm, Nat.and_one_is_mod]
  rcases Nat.mod_two_eq_zero_or_one (x >>> k) with h | h <;> simp [h]
end Go.Proofs.YtcklidpfmpanhaaDoor
