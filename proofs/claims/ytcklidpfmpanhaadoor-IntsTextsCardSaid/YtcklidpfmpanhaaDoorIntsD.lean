/- The document's shifts, step by step; products; the look of one answer against the other: what each function returns, for every number of 64 bits. -/
import Derived.Test.YtcklidpfmpanhaaDoorIntsC
import Derived.Test.YtcklidpfmpanhaaDoorShelf
namespace Go.Proofs.YtcklidpfmpanhaaDoor
open Go.ChangeShapes Go.WideShapes Go.ChangeAt Go.RowKit

theorem rshl_any (a n : Int) (w : World) (ha : fits a = true) :
    Calls Tryd.prog 24 #[.int .i64 a, .int .i64 n] w fun e w' => e = .returned (.tuple #[.int .i64 (shlV a n), .int .i64 (shlE a n)]) ∧ w = w' := by
  cases hn : inSh n
  · have e1 : shlV a n = 0 := by simp [shlV, hn]
    have e2 : shlE a n = 19 := by simp [shlE, hn]
    rw [e1, e2]
    rw [inSh_not] at hn
    clear e1 e2
    rcases hn with hn | hn
    · go_enter Tryd.func24, Tryd.ntmps24
      go_wp2
      go_ret2
      exact ⟨rfl, rfl⟩
    · have h0 : ¬ n < 0 := by omega
      go_enter Tryd.func24, Tryd.ntmps24
      go_wp2
      go_ret2
      exact ⟨rfl, rfl⟩
  · have e1 := Lib.hid (show shlV a n = val1 (a * 2 ^ n.toNat) by simp [shlV, hn])
    have e2 := Lib.hid (show shlE a n = err1 (a * 2 ^ n.toNat) by simp [shlE, hn])
    obtain ⟨h0, h1⟩ := (inSh_iff n).1 hn
    clear hn
    go_enter Tryd.func24, Tryd.ntmps24
    go_wp2_with fail
    go_loop [0, 6] (fun v i => ∃ k : Nat, (k : Int) ≤ n ∧ i = .int .i64 k ∧ v = .int .i64 (a * 2 ^ k) ∧ Hid (fits (a * 2 ^ k) = true)) (fun _ i => n.toNat - (intOf i).toNat)
    case atStart => exact ⟨0, by omega, rfl, by simp, by simpa using Lib.hid ha⟩
    case round =>
      obtain ⟨k, hk, rfl, rfl, hf⟩ := hrel
      by_cases hlt : (k : Int) < n
      · have C := radd_any (a * 2 ^ k) (a * 2 ^ k) w hf.out hf.out
        rw [← pow_succ_mul] at C
        cases hf2 : fits (a * 2 ^ (k + 1))
        · rw [val1_no hf2, err1_no hf2] at C
          have hno : fits (a * 2 ^ n.toNat) = false := by
            cases h : fits (a * 2 ^ n.toNat)
            · rfl
            · rw [fits_less (j := k + 1) (by omega) h] at hf2; cases hf2
          have g1 := Lib.hid (e1.out.trans (val1_no hno))
          have g2 := Lib.hid (e2.out.trans (err1_no hno))
          replace C := Lib.hid C
          clear hno hf2 ha e1 e2
          go_wp2_with (go_at_call 30; refine C.out.mono ?_; rintro e w' ⟨rfl, rfl⟩)
          go_ret2
          exact ⟨ret2 g1.out.symm g2.out.symm, rfl⟩
        · rw [val1_yes hf2, err1_yes hf2] at C
          replace C := Lib.hid C
          replace hf2 := Lib.hid hf2
          clear ha
          go_wp2_with (go_at_call 30; refine C.out.mono ?_; rintro e w' ⟨rfl, rfl⟩)
          go_round
          case rel => exact ⟨k + 1, by omega, by go_num, rfl, hf2⟩
          case measure => simp [intOf]; omega
      · have hkn : k = n.toNat := by omega
        have g1 := Lib.hid (show a * 2 ^ k = shlV a n by rw [e1.out, hkn, val1_yes (by rw [← hkn]; exact hf.out)])
        have g2 := Lib.hid (show 0 = shlE a n by rw [e2.out, err1_yes (by rw [← hkn]; exact hf.out)])
        clear hkn ha e1 e2
        go_wp2
        go_ret2
        exact ⟨ret2 g1.out g2.out, rfl⟩

theorem half_neg (v : Int) (h : v < 0) : (v - 1).tdiv 2 = v / 2 := by
  rw [show v - 1 = -(1 - v) by omega, Int.neg_tdiv, Int.tdiv_eq_ediv_of_nonneg (by omega)]
  omega
theorem half_even (v : Int) (h : v < 0) (h2 : v.tmod 2 = 0) : v.tdiv 2 = v / 2 := by
  rw [show v = -(-v) by omega, Int.neg_tmod, Int.tmod_eq_emod_of_nonneg (by omega)] at h2
  rw [show v.tdiv 2 = -((-v).tdiv 2) by rw [Int.neg_tdiv]; omega, Int.tdiv_eq_ediv_of_nonneg (by omega)]
  omega

theorem rshr_any (a n : Int) (w : World) (ha : fits a = true) :
    Calls Tryd.prog 26 #[.int .i64 a, .int .i64 n] w fun e w' => e = .returned (.tuple #[.int .i64 (shrV a n), .int .i64 (shrE n)]) ∧ w = w' := by
  cases hn : inSh n
  · have e1 : shrV a n = 0 := by simp [shrV, hn]
    have e2 : shrE n = 19 := by simp [shrE, hn]
    rw [e1, e2]
    rw [inSh_not] at hn
    clear e1 e2
    rcases hn with hn | hn
    · go_enter Tryd.func26, Tryd.ntmps26
      go_wp2
      go_ret2
      exact ⟨rfl, rfl⟩
    · have h0 : ¬ n < 0 := by omega
      go_enter Tryd.func26, Tryd.ntmps26
      go_wp2
      go_ret2
      exact ⟨rfl, rfl⟩
  · have e1 : shrV a n = a / 2 ^ n.toNat := by simp [shrV, hn]
    have e2 : shrE n = 0 := by simp [shrE, hn]
    rw [e1, e2]
    clear e1 e2
    obtain ⟨h0, h1⟩ := (inSh_iff n).1 hn
    clear hn
    go_enter Tryd.func26, Tryd.ntmps26
    go_wp2_with fail
    go_loop [0, 6] (fun v i => ∃ k : Nat, (k : Int) ≤ n ∧ i = .int .i64 k ∧ v = .int .i64 (a / 2 ^ k)) (fun _ i => n.toNat - (intOf i).toNat)
    case atStart => exact ⟨0, by omega, rfl, by simp⟩
    case round =>
      obtain ⟨k, hk, rfl, rfl⟩ := hrel
      by_cases hlt : (k : Int) < n
      · have hb := bd (shr_fits ha k)
        have hs := Lib.hid (shr_succ a k)
        generalize a / 2 ^ k = v at *
        generalize hu : a / 2 ^ (k + 1) = u at *
        replace hu := Lib.hid hu
        clear ha
        by_cases hv : v < 0
        · by_cases h2 : v.tmod 2 = 0
          · have g := Lib.hid (show v.tdiv 2 = a / 2 ^ (k + 1) by rw [hu.out, hs.out, half_even v hv h2])
            have g2 : (v.tmod 2 != 0) = false := by simpa using h2
            clear h2
            go_wp2
            go_round
            case rel => exact ⟨k + 1, by omega, by go_num, by rw [← g.out]⟩
            case measure => simp [intOf]; omega
          · have g2 : (v.tmod 2 != 0) = true := by simpa using h2
            by_cases hmin : v = -9223372036854775808
            · exfalso
              subst hmin
              exact h2 (by decide +kernel)
            · have g := Lib.hid (show (v - 1).tdiv 2 = a / 2 ^ (k + 1) by rw [hu.out, hs.out, half_neg v hv])
              clear h2
              go_wp2
              go_round
              case rel => exact ⟨k + 1, by omega, by go_num, by rw [← g.out]⟩
              case measure => simp [intOf]; omega
        · have g := Lib.hid (show v / 2 = a / 2 ^ (k + 1) by rw [hu.out, hs.out])
          go_wp2
          go_round
          case rel => exact ⟨k + 1, by omega, by go_num, by rw [← g.out]⟩
          case measure => simp [intOf]; omega
      · have hkn := Lib.hid (show a / 2 ^ k = a / 2 ^ n.toNat by rw [show k = n.toNat by omega])
        go_wp2
        go_ret2
        exact ⟨ret2 hkn.out rfl, rfl⟩

/-! products -/
theorem size_any (a : Int) (w : World) (ha : fits a = true) :
    Calls Tryd.prog 49 #[.int .i64 a] w fun e w' => e = .returned (.int .u64 (a.natAbs : Int)) ∧ w = w' := by
  have hb := bd ha
  by_cases h : a < 0
  · have e := Lib.hid (show IntKind.u64.wrap (-(IntKind.u64.wrap a)) = (a.natAbs : Int) by rw [u64w, u64w]; omega)
    generalize (a.natAbs : Int) = x at *
    clear hb ha
    go_enter Tryd.func49, Tryd.ntmps49
    go_wp2
    go_ret
    exact ⟨ret1 e.out, rfl⟩
  · have e := Lib.hid (show IntKind.u64.wrap a = (a.natAbs : Int) by rw [u64w]; omega)
    generalize (a.natAbs : Int) = x at *
    clear hb ha
    go_enter Tryd.func49, Tryd.ntmps49
    go_wp2
    go_ret
    exact ⟨ret1 e.out, rfl⟩

theorem natAbs_cases {a b : Int} (hd : (a < 0 ∧ ¬ b < 0) ∨ (¬ a < 0 ∧ b < 0)) : a * b = -((a.natAbs * b.natAbs : Nat) : Int) := by
  rw [Int.natCast_mul]
  rcases hd with ⟨h1, h2⟩ | ⟨h1, h2⟩
  · rw [show (a.natAbs : Int) = -a by omega, show (b.natAbs : Int) = b by omega, Int.neg_mul, Int.neg_neg]
  · rw [show (a.natAbs : Int) = a by omega, show (b.natAbs : Int) = -b by omega, Int.mul_neg, Int.neg_neg]
theorem natAbs_same {a b : Int} (hd : (a < 0 ∧ b < 0) ∨ (¬ a < 0 ∧ ¬ b < 0)) : a * b = ((a.natAbs * b.natAbs : Nat) : Int) := by
  rw [Int.natCast_mul]
  rcases hd with ⟨h1, h2⟩ | ⟨h1, h2⟩
  · rw [show (a.natAbs : Int) = -a by omega, show (b.natAbs : Int) = -b by omega, Int.neg_mul_neg]
  · rw [show (a.natAbs : Int) = a by omega, show (b.natAbs : Int) = b by omega]

/-- one case of the product's walk: the signs decided, the words' two halves as they lie against the bound -/
theorem mul_any (a b : Int) (w : World) (ha : fits a = true) (hb : fits b = true) :
    Calls Tryd.prog 39 #[.int .i64 a, .int .i64 b] w fun e w' => e = .returned (.tuple #[.int .i64 (val1 (a * b)), .int .i64 (err1 (a * b))]) ∧ w = w' := by
  have ba := bd ha
  have bb := bd hb
  have SA := fun W => size_any a W ha
  have SB := fun W => size_any b W hb
  have M := fun W => Tryd.bits_Mul64 a.natAbs b.natAbs (by omega) (by omega) W
  have hsame := natAbs_same (a := a) (b := b)
  have hdiff := natAbs_cases (a := a) (b := b)
  have hq := Nat.div_add_mod (a.natAbs * b.natAbs) 18446744073709551616
  have hr := Nat.mod_lt (a.natAbs * b.natAbs) (show 0 < 18446744073709551616 by decide)
  generalize a.natAbs * b.natAbs / 18446744073709551616 = H at *
  generalize a.natAbs * b.natAbs % 18446744073709551616 = L at *
  generalize a.natAbs * b.natAbs = p at *
  generalize (a.natAbs : Int) = x at *
  generalize (b.natAbs : Int) = y at *
  have M' : ∀ W, Calls Tryd.prog 48 #[.int .u64 x, .int .u64 y] W fun e w' => e = .returned (.tuple #[.int .u64 (H : Int), .int .u64 (L : Int)]) ∧ W = w' := fun W => (M W).mono fun e w' ⟨he, hw⟩ => ⟨he, hw.symm⟩
  clear M ha hb
  have eq := Lib.hid (w64_in (x := a * b))
  have ep := Lib.hid (show val1 (a * b) = val1 (a * b) from rfl)
  generalize hv1 : val1 (a * b) = V at *
  generalize hv2 : err1 (a * b) = E at *
  replace hv1 := Lib.hid hv1
  replace hv2 := Lib.hid hv2
  clear ep
  by_cases h1 : a < 0
  · by_cases h2 : b < 0
    · have hz := hsame (Or.inl ⟨h1, h2⟩)
      by_cases hp : (p : Int) ≤ 9223372036854775807
      · have hf : fits (a * b) = true := by rw [hz]; apply fits_mk <;> omega
        have g1 := Lib.hid ((eq.out hf).trans ((val1_yes hf).symm.trans hv1.out))
        have g2 := Lib.hid ((err1_yes hf).symm.trans hv2.out)
        have c1 : ¬ (0 : Int) < H := by omega
        have c2 : ¬ 9223372036854775807 < (L : Int) := by omega
        clear hz hf hsame hdiff hq hr hp ba bb
        go_enter Tryd.func39, Tryd.ntmps39
        go_wp2_with (first | (go_at_call 49; (with_reducible refine (SA _).mono ?_); rintro e w' ⟨rfl, rfl⟩) | (go_at_call 49; (with_reducible refine (SB _).mono ?_); rintro e w' ⟨rfl, rfl⟩) | (go_at_call 48; (with_reducible refine (M' _).mono ?_); rintro e w' ⟨rfl, rfl⟩))
        go_ret2
        exact ⟨ret2 g1.out g2.out, rfl⟩
      · have hf : fits (a * b) = false := by rw [hz, fits_not]; omega
        have g1 := Lib.hid ((val1_no hf).symm.trans hv1.out)
        have g2 := Lib.hid ((err1_no hf).symm.trans hv2.out)
        by_cases c1 : (0 : Int) < H
        · clear hz hf hsame hdiff hq hr hp ba bb
          go_enter Tryd.func39, Tryd.ntmps39
          go_wp2_with (first | (go_at_call 49; (with_reducible refine (SA _).mono ?_); rintro e w' ⟨rfl, rfl⟩) | (go_at_call 49; (with_reducible refine (SB _).mono ?_); rintro e w' ⟨rfl, rfl⟩) | (go_at_call 48; (with_reducible refine (M' _).mono ?_); rintro e w' ⟨rfl, rfl⟩))
          go_ret2
          exact ⟨ret2 g1.out g2.out, rfl⟩
        · have c2 : 9223372036854775807 < (L : Int) := by omega
          clear hz hf hsame hdiff hq hr hp ba bb
          go_enter Tryd.func39, Tryd.ntmps39
          go_wp2_with (first | (go_at_call 49; (with_reducible refine (SA _).mono ?_); rintro e w' ⟨rfl, rfl⟩) | (go_at_call 49; (with_reducible refine (SB _).mono ?_); rintro e w' ⟨rfl, rfl⟩) | (go_at_call 48; (with_reducible refine (M' _).mono ?_); rintro e w' ⟨rfl, rfl⟩))
          go_ret2
          exact ⟨ret2 g1.out g2.out, rfl⟩
    · have hz := hdiff (Or.inl ⟨h1, h2⟩)
      have gb : decide (b < 0) = false := by simpa using h2
      by_cases hp : (p : Int) ≤ 9223372036854775808
      · have hf : fits (a * b) = true := by rw [hz]; apply fits_mk <;> omega
        have g1 := Lib.hid ((eq.out hf).trans ((val1_yes hf).symm.trans hv1.out))
        have g2 := Lib.hid ((err1_yes hf).symm.trans hv2.out)
        have c1 : ¬ (0 : Int) < H := by omega
        have c2 : ¬ 9223372036854775808 < (L : Int) := by omega
        clear hz hf hsame hdiff hq hr hp ba bb
        go_enter Tryd.func39, Tryd.ntmps39
        go_wp2_with (first | (go_at_call 49; (with_reducible refine (SA _).mono ?_); rintro e w' ⟨rfl, rfl⟩) | (go_at_call 49; (with_reducible refine (SB _).mono ?_); rintro e w' ⟨rfl, rfl⟩) | (go_at_call 48; (with_reducible refine (M' _).mono ?_); rintro e w' ⟨rfl, rfl⟩))
        go_ret2
        exact ⟨ret2 g1.out g2.out, rfl⟩
      · have hf : fits (a * b) = false := by rw [hz, fits_not]; omega
        have g1 := Lib.hid ((val1_no hf).symm.trans hv1.out)
        have g2 := Lib.hid ((err1_no hf).symm.trans hv2.out)
        by_cases c1 : (0 : Int) < H
        · clear hz hf hsame hdiff hq hr hp ba bb
          go_enter Tryd.func39, Tryd.ntmps39
          go_wp2_with (first | (go_at_call 49; (with_reducible refine (SA _).mono ?_); rintro e w' ⟨rfl, rfl⟩) | (go_at_call 49; (with_reducible refine (SB _).mono ?_); rintro e w' ⟨rfl, rfl⟩) | (go_at_call 48; (with_reducible refine (M' _).mono ?_); rintro e w' ⟨rfl, rfl⟩))
          go_ret2
          exact ⟨ret2 g1.out g2.out, rfl⟩
        · have c2 : 9223372036854775808 < (L : Int) := by omega
          clear hz hf hsame hdiff hq hr hp ba bb
          go_enter Tryd.func39, Tryd.ntmps39
          go_wp2_with (first | (go_at_call 49; (with_reducible refine (SA _).mono ?_); rintro e w' ⟨rfl, rfl⟩) | (go_at_call 49; (with_reducible refine (SB _).mono ?_); rintro e w' ⟨rfl, rfl⟩) | (go_at_call 48; (with_reducible refine (M' _).mono ?_); rintro e w' ⟨rfl, rfl⟩))
          go_ret2
          exact ⟨ret2 g1.out g2.out, rfl⟩
  · by_cases h2 : b < 0
    · have hz := hdiff (Or.inr ⟨h1, h2⟩)
      have ga : decide (a < 0) = false := by simpa using h1
      by_cases hp : (p : Int) ≤ 9223372036854775808
      · have hf : fits (a * b) = true := by rw [hz]; apply fits_mk <;> omega
        have g1 := Lib.hid ((eq.out hf).trans ((val1_yes hf).symm.trans hv1.out))
        have g2 := Lib.hid ((err1_yes hf).symm.trans hv2.out)
        have c1 : ¬ (0 : Int) < H := by omega
        have c2 : ¬ 9223372036854775808 < (L : Int) := by omega
        clear hz hf hsame hdiff hq hr hp ba bb
        go_enter Tryd.func39, Tryd.ntmps39
        go_wp2_with (first | (go_at_call 49; (with_reducible refine (SA _).mono ?_); rintro e w' ⟨rfl, rfl⟩) | (go_at_call 49; (with_reducible refine (SB _).mono ?_); rintro e w' ⟨rfl, rfl⟩) | (go_at_call 48; (with_reducible refine (M' _).mono ?_); rintro e w' ⟨rfl, rfl⟩))
        go_ret2
        exact ⟨ret2 g1.out g2.out, rfl⟩
      · have hf : fits (a * b) = false := by rw [hz, fits_not]; omega
        have g1 := Lib.hid ((val1_no hf).symm.trans hv1.out)
        have g2 := Lib.hid ((err1_no hf).symm.trans hv2.out)
        by_cases c1 : (0 : Int) < H
        · clear hz hf hsame hdiff hq hr hp ba bb
          go_enter Tryd.func39, Tryd.ntmps39
          go_wp2_with (first | (go_at_call 49; (with_reducible refine (SA _).mono ?_); rintro e w' ⟨rfl, rfl⟩) | (go_at_call 49; (with_reducible refine (SB _).mono ?_); rintro e w' ⟨rfl, rfl⟩) | (go_at_call 48; (with_reducible refine (M' _).mono ?_); rintro e w' ⟨rfl, rfl⟩))
          go_ret2
          exact ⟨ret2 g1.out g2.out, rfl⟩
        · have c2 : 9223372036854775808 < (L : Int) := by omega
          clear hz hf hsame hdiff hq hr hp ba bb
          go_enter Tryd.func39, Tryd.ntmps39
          go_wp2_with (first | (go_at_call 49; (with_reducible refine (SA _).mono ?_); rintro e w' ⟨rfl, rfl⟩) | (go_at_call 49; (with_reducible refine (SB _).mono ?_); rintro e w' ⟨rfl, rfl⟩) | (go_at_call 48; (with_reducible refine (M' _).mono ?_); rintro e w' ⟨rfl, rfl⟩))
          go_ret2
          exact ⟨ret2 g1.out g2.out, rfl⟩
    · have hz := hsame (Or.inr ⟨h1, h2⟩)
      have ga : decide (a < 0) = false := by simpa using h1
      have gb : decide (b < 0) = false := by simpa using h2
      by_cases hp : (p : Int) ≤ 9223372036854775807
      · have hf : fits (a * b) = true := by rw [hz]; apply fits_mk <;> omega
        have g1 := Lib.hid ((eq.out hf).trans ((val1_yes hf).symm.trans hv1.out))
        have g2 := Lib.hid ((err1_yes hf).symm.trans hv2.out)
        have c1 : ¬ (0 : Int) < H := by omega
        have c2 : ¬ 9223372036854775807 < (L : Int) := by omega
        clear hz hf hsame hdiff hq hr hp ba bb
        go_enter Tryd.func39, Tryd.ntmps39
        go_wp2_with (first | (go_at_call 49; (with_reducible refine (SA _).mono ?_); rintro e w' ⟨rfl, rfl⟩) | (go_at_call 49; (with_reducible refine (SB _).mono ?_); rintro e w' ⟨rfl, rfl⟩) | (go_at_call 48; (with_reducible refine (M' _).mono ?_); rintro e w' ⟨rfl, rfl⟩))
        go_ret2
        exact ⟨ret2 g1.out g2.out, rfl⟩
      · have hf : fits (a * b) = false := by rw [hz, fits_not]; omega
        have g1 := Lib.hid ((val1_no hf).symm.trans hv1.out)
        have g2 := Lib.hid ((err1_no hf).symm.trans hv2.out)
        by_cases c1 : (0 : Int) < H
        · clear hz hf hsame hdiff hq hr hp ba bb
          go_enter Tryd.func39, Tryd.ntmps39
          go_wp2_with (first | (go_at_call 49; (with_reducible refine (SA _).mono ?_); rintro e w' ⟨rfl, rfl⟩) | (go_at_call 49; (with_reducible refine (SB _).mono ?_); rintro e w' ⟨rfl, rfl⟩) | (go_at_call 48; (with_reducible refine (M' _).mono ?_); rintro e w' ⟨rfl, rfl⟩))
          go_ret2
          exact ⟨ret2 g1.out g2.out, rfl⟩
        · have c2 : 9223372036854775807 < (L : Int) := by omega
          clear hz hf hsame hdiff hq hr hp ba bb
          go_enter Tryd.func39, Tryd.ntmps39
          go_wp2_with (first | (go_at_call 49; (with_reducible refine (SA _).mono ?_); rintro e w' ⟨rfl, rfl⟩) | (go_at_call 49; (with_reducible refine (SB _).mono ?_); rintro e w' ⟨rfl, rfl⟩) | (go_at_call 48; (with_reducible refine (M' _).mono ?_); rintro e w' ⟨rfl, rfl⟩))
          go_ret2
          exact ⟨ret2 g1.out g2.out, rfl⟩
end Go.Proofs.YtcklidpfmpanhaaDoor
