/- The next text, in plain Lean: with the last byte below 255 raised and what lies behind it left out, it is above all texts that begin so, and nothing lies between. No condition. -/
import Derived.Laws.Strings
namespace Go.Proofs.YtcokkmjfdnigpaaDoor

theorem full_law : ∀ (k : Nat) (t : List UInt8), (List.replicate k (255 : UInt8)).isPrefixOf t = !Op.bytesLess t (List.replicate k 255)
  | 0, t => by cases t <;> simp [Op.bytesLess]
  | k + 1, [] => by simp [List.replicate_succ, Op.bytesLess]
  | k + 1, a :: t => by
    have ih := full_law k t
    simp only [List.replicate_succ, List.isPrefixOf, Op.bytesLess, ih]
    by_cases h : a = 255
    · subst h
      simp
    · have h1 : (255 == a) = false := by rw [beq_eq_false_iff_ne]; exact fun e => h e.symm
      have h2 : a < 255 := by
        rw [UInt8.lt_iff_toNat_lt]
        have h3 : a.toNat ≠ 255 := fun e => h (UInt8.toNat_inj.1 e)
        have h4 := a.toNat_lt
        show a.toNat < 255
        omega
      simp [h1, h2]

theorem next_law (x : UInt8) (k : Nat) (hx : x.toNat < 255) : ∀ (q o : List UInt8),
    (q ++ x :: List.replicate k 255).isPrefixOf o = (!Op.bytesLess o (q ++ x :: List.replicate k 255) && Op.bytesLess o (q ++ [x + 1]))
  | [], [] => by simp [Op.bytesLess]
  | [], a :: t => by
    have ih := full_law k t
    simp only [List.nil_append, List.isPrefixOf, Op.bytesLess, ih, Bool.and_false, Bool.or_false]
    have hs : (x + 1).toNat = x.toNat + 1 := by rw [UInt8.toNat_add]; simp; omega
    by_cases h : a = x
    · subst h
      have h1 : a < a + 1 := by rw [UInt8.lt_iff_toNat_lt, hs]; omega
      have h2 : ¬ a < a := by rw [UInt8.lt_iff_toNat_lt]; omega
      simp [h1, h2]
    · have h0 : (x == a) = false := by rw [beq_eq_false_iff_ne]; exact fun e => h e.symm
      have h0' : (a == x) = false := by rw [beq_eq_false_iff_ne]; exact h
      have hne : a.toNat ≠ x.toNat := fun e => h (UInt8.toNat_inj.1 e)
      by_cases h1 : a < x
      · simp [h0, h0', h1]
      · have h2 : ¬ a < x + 1 := by
          rw [UInt8.lt_iff_toNat_lt] at *
          rw [hs]
          omega
        simp [h0, h0', h1, h2]
  | b :: q, [] => by simp [Op.bytesLess]
  | b :: q, a :: t => by
    have ih := next_law x k hx q t
    simp only [List.cons_append, List.isPrefixOf, Op.bytesLess, ih]
    by_cases h : a = b
    · subst h
      have h2 : ¬ a < a := by rw [UInt8.lt_iff_toNat_lt]; omega
      simp [h2]
    · have h0 : (b == a) = false := by rw [beq_eq_false_iff_ne]; exact fun e => h e.symm
      have h0' : (a == b) = false := by rw [beq_eq_false_iff_ne]; exact h
      by_cases h1 : a < b <;> simp [h0, h0', h1]
end Go.Proofs.YtcokkmjfdnigpaaDoor
