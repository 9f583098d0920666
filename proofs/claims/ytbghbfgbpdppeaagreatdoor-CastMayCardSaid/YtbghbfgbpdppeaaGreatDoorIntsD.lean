
/- The document's shifts, step by step; products; the look of one answer against the other: what each function returns, for every number of 64 bits. -/
import Derived.Test.YtbghbfgbpdppeaaGreatDoorIntsC
import Derived.Test.YtbghbfgbpdppeaaGreatDoorShelf
namespace Go.Proofs.YtbghbfgbpdppeaaGreatDoor
open Go.ChangeShapes Go.WideShapes Go.ChangeAt Go.RowKit

theorem half_neg (v : Int) (h : v < 0) : (v - 1).tdiv 2 = v / 2 := by
  rw [show v - 1 = -(1 - v) by omega, Int.neg_tdiv, Int.tdiv_eq_ediv_of_nonneg (by omega)]
  omega
theorem half_even (v : Int) (h : v < 0) (h2 : v.tmod 2 = 0) : v.tdiv 2 = v / 2 := by
  rw [show v = -(-v) by omega, Int.neg_tmod, Int.tmod_eq_emod_of_nonneg (by omega)] at h2
  rw [show v.tdiv 2 = -((-v).tdiv 2) by rw [Int.neg_tdiv]; omega, Int.tdiv_eq_ediv_of_nonneg (by omega)]
  omega

/-! products -/
theorem size_any (a : Int) (w : World) (ha : fits a = true) :
    Calls Tryz.prog 63 #[.int .i64 a] w fun e w' => e = .returned (.int .u64 (a.natAbs : Int)) ∧ w = w' := by
  have hb := bd ha
  by_cases h : a < 0
  · have e := Lib.hid (show IntKind.u64.wrap (-(IntKind.u64.wrap a)) = (a.natAbs : Int) by rw [u64w, u64w]; omega)
    generalize (a.natAbs : Int) = x at *
    clear hb ha
    go_enter Tryz.func63, Tryz.ntmps63
    go_wp2
    go_ret
    exact ⟨ret1 e.out, rfl⟩
  · have e := Lib.hid (show IntKind.u64.wrap a = (a.natAbs : Int) by rw [u64w]; omega)
    generalize (a.natAbs : Int) = x at *
    clear hb ha
    go_enter Tryz.func63, Tryz.ntmps63
    go_wp2
    go_ret
    exact ⟨ret1 e.out, rfl⟩

theorem natAbs_cases {a b : Int} (hd : (a < 0 ∧ ¬ b < 0) ∨ (¬ a < 0 ∧ b < 0)) : a * b = -((a.natAbs * b.natAbs : Nat) : Int) := by
  rw [Int.natCast_mul]
  rcases hd with ⟨h1, h2⟩ | ⟨h1, h2⟩
  · rw [show (a.natAbs : Int) = -a by omega, show (b.natAbs : Int) = b by omega, Int.neg_mul, Int.neg_neg]
  · rw [show (a.natAbs : Int) = a by omega, show (b.natAbs : Int) = -b by omega, Int.mul_neg, Int.neg_neg]
theorem natAbs_same {a b : Int} (hd : (a < 0 ∧ b < 0) ∨ (¬ a < 0 ∧ ¬ b < 0)) : a * b = ((a.natAbs * b.natAbs : Nat) : Int) := by
  rw [Int.natCast_mul]
  rcases hd with ⟨h1, h2⟩ | ⟨h1, h2⟩
  · rw [show (a.natAbs : Int) = -a by omega, show (b.natAbs : Int) = -b by omega, Int.neg_mul_neg]
  · rw [show (a.natAbs : Int) = a by omega, show (b.natAbs : Int) = b by omega]

/-- one case of the product's walk: the signs decided, the words' two halves as they lie against the bound -/
theorem mul_any (a b : Int) (w : World) (ha : fits a = true) (hb : fits b = true) :
    Calls Tryz.prog 39 #[.int .i64 a, .int .i64 b] w fun e w' => e = .returned (.tuple #[.int .i64 (val1 (a * b)), .int .i64 (err1 (a * b))]) ∧ w = w' := by
  have ba := bd ha
  have bb := bd hb
  have SA := fun W => size_any a W ha
  have SB := fun W => size_any b W hb
  have M := fun W => Tryz.bits_Mul64 a.natAbs b.natAbs (by omega) (by omega) W
  have hsame := natAbs_same (a := a) (b := b)
  have hdiff := natAbs_cases (a := a) (b := b)
  have hq := Nat.div_add_mod (a.natAbs * b.natAbs) 18446744073709551616
  have hr := Nat.mod_lt (a.natAbs * b.natAbs) (show 0 < 18446744073709551616 by decide)
  generalize a.natAbs * b.natAbs / 18446744073709551616 = H at *
  generalize a.natAbs * b.natAbs % 18446744073709551616 = L at *
  generalize a.natAbs * b.natAbs = p at *
  generalize (a.natAbs : Int) = x at *
  generalize (b.natAbs : Int) = y at *
  have M' : ∀ W, Calls Tryz.prog 62 #[.int .u64 x, .int .u64 y] W fun e w' => e = .returned (.tuple #[.int .u64 (H : Int), .int .u64 (L : Int)]) ∧ W = w' := fun W => (M W).mono fun e w' ⟨he, hw⟩ => ⟨he, hw.symm⟩
  clear M ha hb
  have eq := Lib.hid (w64_in (x := a * b))
  have ep := Lib.hid (show val1 (a * b) = val1 (a * b) from rfl)
  generalize hv1 : val1 (a * b) = V at *
  generalize hv2 : err1 (a * b) = E at *
  replace hv1 := Lib.hid hv1
  replace hv2 := Lib.hid hv2
  clear ep
  by_cases h1 : a < 0
  · by_cases h2 : b < 0
    · have hz := hsame (Or.inl ⟨h1, h2⟩)
      by_cases hp : (p : Int) ≤ 9223372036854775807
      · have hf : fits (a * b) = true := by rw [hz]; apply fits_mk <;> omega
        have g1 := Lib.hid ((eq.out hf).trans ((val1_yes hf).symm.trans hv1.out))
        have g2 := Lib.hid ((err1_yes hf).symm.trans hv2.out)
        have c1 : ¬ (0 : Int) < H := by omega
        have c2 : ¬ 9223372036854775807 < (L : Int) := by omega
        clear hz hf hsame hdiff hq hr hp ba bb
        go_enter Tryz.func39, Tryz.ntmps39
        go_wp2_with (first | (go_at_call 63; (with_reducible refine (SA _).mono ?_); rintro e w' ⟨rfl, rfl⟩) | (go_at_call 63; (with_reducible refine (SB _).mono ?_); rintro e w' ⟨rfl, rfl⟩) | (go_at_call 62; (with_reducible refine (M' _).mono ?_); rintro e w' ⟨rfl, rfl⟩))
        go_ret2
        exact ⟨ret2 g1.out g2.out, rfl⟩
      · have hf : fits (a * b) = false := by rw [hz, fits_not]; omega
        have g1 := Lib.hid ((val1_no hf).symm.trans hv1.out)
        have g2 := Lib.hid ((err1_no hf).symm.trans hv2.out)
        by_cases c1 : (0 : Int) < H
        · clear hz hf hsame hdiff hq hr hp ba bb
          go_enter Tryz.func39, Tryz.ntmps39
          go_wp2_with (first | (go_at_call 63; (with_reducible refine (SA _).mono ?_); rintro e w' ⟨rfl, rfl⟩) | (go_at_call 63; (with_reducible refine (SB _).mono ?_); rintro e w' ⟨rfl, rfl⟩) | (go_at_call 62; (with_reducible refine (M' _).mono ?_); rintro e w' ⟨rfl, rfl⟩))
          go_ret2
          exact ⟨ret2 g1.out g2.out, rfl⟩
        · have c2 : 9223372036854775807 < (L : Int) := by omega
          clear hz hf hsame hdiff hq hr hp ba bb
          go_enter Tryz.func39, Tryz.ntmps39
          go_wp2_with (first | (go_at_call 63; (with_reducible refine (SA _).mono ?_); rintro e w' ⟨rfl, rfl⟩) | (go_at_call 63; (with_reducible refine (SB _).mono ?_); rintro e w' ⟨rfl, rfl⟩) | (go_at_call 62; (with_reducible refine (M' _).mono ?_); rintro e w' ⟨rfl, rfl⟩))
          go_ret2
          exact ⟨ret2 g1.out g2.out, rfl⟩
    · have hz := hdiff (Or.inl ⟨h1, h2⟩)
      have gb : decide (b < 0) = false := by simpa using h2
      by_cases hp : (p : Int) ≤ 9223372036854775808
      · have hf : fits (a * b) = true := by rw [hz]; apply fits_mk <;> omega
        have g1 := Lib.hid ((eq.out hf).trans ((val1_yes hf).symm.trans hv1.out))
        have g2 := Lib.hid ((err1_yes hf).symm.trans hv2.out)
        have c1 : ¬ (0 : Int) < H := by omega
        have c2 : ¬ 9223372036854775808 < (L : Int) := by omega
        clear hz hf hsame hdiff hq hr hp ba bb
        go_enter Tryz.func39, Tryz.ntmps39
        go_wp2_with (first | (go_at_call 63; (with_reducible refine (SA _).mono ?_); rintro e w' ⟨rfl, rfl⟩) | (go_at_call 63; (with_reducible refine (SB _).mono ?_); rintro e w' ⟨rfl, rfl⟩) | (go_at_call 62; (with_reducible refine (M' _).mono ?_); rintro e w' ⟨rfl, rfl⟩))
        go_ret2
        exact ⟨ret2 g1.out g2.out, rfl⟩
      · have hf : fits (a * b) = false := by rw [hz, fits_not]; omega
        have g1 := Lib.hid ((val1_no hf).symm.trans hv1.out)
        have g2 := Lib.hid ((err1_no hf).symm.trans hv2.out)
        by_cases c1 : (0 : Int) < H
        · clear hz hf hsame hdiff hq hr hp ba bb
          go_enter Tryz.func39, Tryz.ntmps39
          go_wp2_with (first | (go_at_call 63; (with_reducible refine (SA _).mono ?_); rintro e w' ⟨rfl, rfl⟩) | (go_at_call 63; (with_reducible refine (SB _).mono ?_); rintro e w' ⟨rfl, rfl⟩) | (go_at_call 62; (with_reducible refine (M' _).mono ?_); rintro e w' ⟨rfl, rfl⟩))
          go_ret2
          exact ⟨ret2 g1.out g2.out, rfl⟩
        · have c2 : 9223372036854775808 < (L : Int) := by omega
          clear hz hf hsame hdiff hq hr hp ba bb
          go_enter Tryz.func39, Tryz.ntmps39
          go_wp2_with (first | (go_at_call 63; (with_reducible refine (SA _).mono ?_); rintro e w' ⟨rfl, rfl⟩) | (go_at_call 63; (with_reducible refine (SB _).mono ?_); rintro e w' ⟨rfl, rfl⟩) | (go_at_call 62; (with_reducible refine (M' _).mono ?_); rintro e w' ⟨rfl, rfl⟩))
          go_ret2
          exact ⟨ret2 g1.out g2.out, rfl⟩
  · by_cases h2 : b < 0
    · have hz := hdiff (Or.inr ⟨h1, h2⟩)
      have ga : decide (a < 0) = false := by simpa using h1
      by_cases hp : (p : Int) ≤ 9223372036854775808
      · have hf : fits (a * b) = true := by rw [hz]; apply fits_mk <;> omega
        have g1 := Lib.hid ((eq.out hf).trans ((val1_yes hf).symm.trans hv1.out))
        have g2 := Lib.hid ((err1_yes hf).symm.trans hv2.out)
        have c1 : ¬ (0 : Int) < H := by omega
        have c2 : ¬ 9223372036854775808 < (L : Int) := by omega
        clear hz hf hsame hdiff hq hr hp ba bb
        go_enter Tryz.func39, Tryz.ntmps39
        go_wp2_with (first | (go_at_call 63; (with_reducible refine (SA _).mono ?_); rintro e w' ⟨rfl, rfl⟩) | (go_at_call 63; (with_reducible refine (SB _).mono ?_); rintro e w' ⟨rfl, rfl⟩) | (go_at_call 62; (with_reducible refine (M' _).mono ?_); rintro e w' ⟨rfl, rfl⟩))
        go_ret2
        exact ⟨ret2 g1.out g2.out, rfl⟩
      · have hf : fits (a * b) = false := by rw [hz, fits_not]; omega
        have g1 := Lib.hid ((val1_no hf).symm.trans hv1.out)
        have g2 := Lib.hid ((err1_no hf).symm.trans hv2.out)
        by_cases c1 : (0 : Int) < H
        · clear hz hf hsame hdiff hq hr hp ba bb
          go_enter Tryz.func39, Tryz.ntmps39
          go_wp2_with (first | (go_at_call 63; (with_reducible refine (SA _).mono ?_); rintro e w' ⟨rfl, rfl⟩) | (go_at_call 63; (with_reducible refine (SB _).mono ?_); rintro e w' ⟨rfl, rfl⟩) | (go_at_call 62; (with_reducible refine (M' _).mono ?_); rintro e w' ⟨rfl, rfl⟩))
          go_ret2
          exact ⟨ret2 g1.out g2.out, rfl⟩
        · have c2 : 9223372036854775808 < (L : Int) := by omega
          clear hz hf hsame hdiff hq hr hp ba bb
          go_enter Tryz.func39, Tryz.ntmps39
          go_wp2_with (first | (go_at_call 63; (with_reducible refine (SA _).mono ?_); rintro e w' ⟨rfl, rfl⟩) | (go_at_call 63; (with_reducible refine (SB _).mono ?_); rintro e w' ⟨rfl, rfl⟩) | (go_at_call 62; (with_reducible refine (M' _).mono ?_); rintro e w' ⟨rfl, rfl⟩))
          go_ret2
          exact ⟨ret2 g1.out g2.out, rfl⟩
    · have hz := hsame (Or.inr ⟨h1, h2⟩)
      have ga : decide (a < 0) = false := by simpa using h1
      have gb : decide (b < 0) = false := by simpa using h2
      by_cases hp : (p : Int) ≤ 9223372036854775807
      · have hf : fits (a * b) = true := by rw [hz]; apply fits_mk <;> omega
        have g1 := Lib.hid ((eq.out hf).trans ((val1_yes hf).symm.trans hv1.out))
        have g2 := Lib.hid ((err1_yes hf).symm.trans hv2.out)
        have c1 : ¬ (0 : Int) < H := by omega
        have c2 : ¬ 9223372036854775807 < (L : Int) := by omega
        clear hz hf hsame hdiff hq hr hp ba bb
        go_enter Tryz.func39, Tryz.ntmps39
        go_wp2_with (first | (go_at_call 63; (with_reducible refine (SA _).mono ?_); rintro e w' ⟨rfl, rfl⟩) | (go_at_call 63; (with_reducible refine (SB _).mono ?_); rintro e w' ⟨rfl, rfl⟩) | (go_at_call 62; (with_reducible refine (M' _).mono ?_); rintro e w' ⟨rfl, rfl⟩))
        go_ret2
        exact ⟨ret2 g1.out g2.out, rfl⟩
      · have hf : fits (a * b) = false := by rw [hz, fits_not]; omega
        have g1 := Lib.hid ((val1_no hf).symm.trans hv1.out)
        have g2 := Lib.hid ((err1_no hf).symm.trans hv2.out)
        by_cases c1 : (0 : Int) < H
        · clear hz hf hsame hdiff hq hr hp ba bb
          go_enter Tryz.func39, Tryz.ntmps39
          go_wp2_with (first | (go_at_call 63; (with_reducible refine (SA _).mono ?_); rintro e w' ⟨rfl, rfl⟩) | (go_at_call 63; (with_reducible refine (SB _).mono ?_); rintro e w' ⟨rfl, rfl⟩) | (go_at_call 62; (with_reducible refine (M' _).mono ?_); rintro e w' ⟨rfl, rfl⟩))
          go_ret2
          exact ⟨ret2 g1.out g2.out, rfl⟩
        · have c2 : 9223372036854775807 < (L : Int) := by omega
          clear hz hf hsame hdiff hq hr hp ba bb
          go_enter Tryz.func39, Tryz.ntmps39
          go_wp2_with (first | (go_at_call 63; (with_reducible refine (SA _).mono ?_); rintro e w' ⟨rfl, rfl⟩) | (go_at_call 63; (with_reducible refine (SB _).mono ?_); rintro e w' ⟨rfl, rfl⟩) | (go_at_call 62; (with_reducible refine (M' _).mono ?_); rintro e w' ⟨rfl, rfl⟩))
          go_ret2
          exact ⟨ret2 g1.out g2.out, rfl⟩
end Go.Proofs.YtbghbfgbpdppeaaGreatDoor
