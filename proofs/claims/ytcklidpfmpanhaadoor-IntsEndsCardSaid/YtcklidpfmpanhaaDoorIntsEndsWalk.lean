/- IntsEnds is true of every input: the walk, where the table of powers of ten stands. -/
import Derived.Test.YtcklidpfmpanhaaDoorIntsF
namespace Go.Proofs.YtcklidpfmpanhaaDoor
open Go.ChangeShapes Go.WideShapes Go.ChangeAt Go.RowKit

set_option maxRecDepth 100000 in
theorem walk_IntsEnds (k : Int) (w0 : (Lit.int .i64 k).wf = true) (w : World) (hT : Tabs w) :
    Calls Tryd.prog 9 #[.int .i64 k] w fun e w' => e = .returned (.bool true) ∧ Below w.heap.size w w' := by
  have K := Lib.hid (awake_any w hT)
  clear hT
  have hk := bd (fits_wf w0)
  clear w0
  have vt : val1 9223372036854775807 = 9223372036854775807 := by decide +kernel
  have et : err1 9223372036854775807 = 0 := by decide +kernel
  have vl : val1 (-9223372036854775808) = -9223372036854775808 := by decide +kernel
  have el : err1 (-9223372036854775808) = 0 := by decide +kernel
  have C5 : ∀ W, Calls Tryd.prog 33 #[.int .i64 (-9223372036854775808)] W fun e w' => e = .returned (.tuple #[.int .i64 0, .int .i64 17]) ∧ W = w' := fun W => (neg_any (-9223372036854775808) W (by decide +kernel)).mono fun e w' ⟨he, hw⟩ => ⟨he.trans (ret2 (by decide +kernel) (by decide +kernel)), hw⟩
  have C6 : ∀ W, Calls Tryd.prog 37 #[.int .i64 (-9223372036854775808), .int .i64 (-1)] W fun e w' => e = .returned (.tuple #[.int .i64 0, .int .i64 17]) ∧ W = w' := fun W => (div_any (-9223372036854775808) (-1) W (by decide +kernel)).mono fun e w' ⟨he, hw⟩ => ⟨he.trans (ret2 (by decide +kernel) (by decide +kernel)), hw⟩
  have C7 : ∀ W, Calls Tryd.prog 38 #[.int .i64 (-9223372036854775808), .int .i64 (-1)] W fun e w' => e = .returned (.tuple #[.int .i64 0, .int .i64 0]) ∧ W = w' := fun W => (mod_any (-9223372036854775808) (-1) W).mono fun e w' ⟨he, hw⟩ => ⟨he.trans (ret2 (by decide +kernel) (by decide +kernel)), hw⟩
  by_cases h0 : k < 0
  · obtain ⟨j, hj⟩ : ∃ j : Int, j = -(k + 1) := ⟨_, rfl⟩
    have j0 : 0 ≤ j := by omega
    have j1 : j ≤ 9223372036854775807 := by omega
    go_enter Tryd.func9, Tryd.ntmps9
    go_wp2_with fail
    rw [show 9223372036854775807 + (k + 1) = 9223372036854775807 - j by omega, ← hj]
    clear hj
    have C1 : ∀ W, Calls Tryd.prog 29 #[.int .i64 (9223372036854775807 - j), .int .i64 j] W fun e w' => e = .returned (.tuple #[.int .i64 9223372036854775807, .int .i64 0]) ∧ W = w' := fun W => (add_any _ _ W (by apply fits_mk <;> omega) (by apply fits_mk <;> omega)).mono fun e w' ⟨he, hw⟩ => ⟨he.trans (ret2 (by rw [show 9223372036854775807 - j + j = 9223372036854775807 by omega]; exact vt) (by rw [show 9223372036854775807 - j + j = 9223372036854775807 by omega]; exact et)), hw⟩
    have C3 : ∀ W, Calls Tryd.prog 31 #[.int .i64 (-9223372036854775808 + j), .int .i64 j] W fun e w' => e = .returned (.tuple #[.int .i64 (-9223372036854775808), .int .i64 0]) ∧ W = w' := fun W => (sub_any _ _ W (by apply fits_mk <;> omega) (by apply fits_mk <;> omega)).mono fun e w' ⟨he, hw⟩ => ⟨he.trans (ret2 (by rw [show -9223372036854775808 + j - j = -9223372036854775808 by omega]; exact vl) (by rw [show -9223372036854775808 + j - j = -9223372036854775808 by omega]; exact el)), hw⟩
    have C4 : ∀ W, Calls Tryd.prog 31 #[.int .i64 (-9223372036854775808), .int .i64 (1 + j % 3)] W fun e w' => e = .returned (.tuple #[.int .i64 0, .int .i64 17]) ∧ W = w' := fun W => (sub_any _ _ W (by decide +kernel) (by apply fits_mk <;> omega)).mono fun e w' ⟨he, hw⟩ => ⟨he.trans (ret2 (val1_no (by rw [fits_not]; omega)) (err1_no (by rw [fits_not]; omega))), hw⟩
    have C2 : j < 9223372036854775807 → ∀ W, Calls Tryd.prog 29 #[.int .i64 (9223372036854775807 - j), .int .i64 (j + 1)] W fun e w' => e = .returned (.tuple #[.int .i64 0, .int .i64 17]) ∧ W = w' := fun hj W => (add_any _ _ W (by apply fits_mk <;> omega) (by apply fits_mk <;> omega)).mono fun e w' ⟨he, hw⟩ => ⟨he.trans (ret2 (val1_no (by rw [fits_not]; omega)) (err1_no (by rw [fits_not]; omega))), hw⟩
    have C2' : ∀ W, Calls Tryd.prog 29 #[.int .i64 0, .int .i64 9223372036854775807] W fun e w' => e = .returned (.tuple #[.int .i64 9223372036854775807, .int .i64 0]) ∧ W = w' := fun W => (add_any _ _ W (by decide +kernel) (by decide +kernel)).mono fun e w' ⟨he, hw⟩ => ⟨he.trans (ret2 (by decide +kernel) (by decide +kernel)), hw⟩
    clear vt et vl el
    by_cases hj : j < 9223372036854775807
    · have hmin : min 1 (9223372036854775807 - j) = 1 := by omega
      have hne : (j == 9223372036854775807) = false := by rw [beq_eq_false_iff_ne]; omega
      replace C2 := C2 hj
      go_wp2_with (first | (go_at_call 29; (with_reducible refine (C1 _).mono ?_); rintro e w' ⟨rfl, rfl⟩) | (go_at_call 29; (with_reducible refine (C2 _).mono ?_); rintro e w' ⟨rfl, rfl⟩) | (go_at_call 31; (with_reducible refine (C3 _).mono ?_); rintro e w' ⟨rfl, rfl⟩) | (go_at_call 31; (with_reducible refine (C4 _).mono ?_); rintro e w' ⟨rfl, rfl⟩) | (go_at_call 33; (with_reducible refine (C5 _).mono ?_); rintro e w' ⟨rfl, rfl⟩) | (go_at_call 37; (with_reducible refine (C6 _).mono ?_); rintro e w' ⟨rfl, rfl⟩) | (go_at_call 38; (with_reducible refine (C7 _).mono ?_); rintro e w' ⟨rfl, rfl⟩) | (go_at_call 19; (with_reducible refine K.out.mono ?_); rintro e w' ⟨rfl, hb⟩))
      go_ret
      exact ⟨rfl, hb⟩
    · obtain rfl : j = 9223372036854775807 := by omega
      clear C2
      have C3' : ∀ W, Calls Tryd.prog 31 #[.int .i64 (-1), .int .i64 9223372036854775807] W fun e w' => e = .returned (.tuple #[.int .i64 (-9223372036854775808), .int .i64 0]) ∧ W = w' := fun W => (sub_any _ _ W (by decide +kernel) (by decide +kernel)).mono fun e w' ⟨he, hw⟩ => ⟨he.trans (ret2 (by decide +kernel) (by decide +kernel)), hw⟩
      have C4' : ∀ W, Calls Tryd.prog 31 #[.int .i64 (-9223372036854775808), .int .i64 2] W fun e w' => e = .returned (.tuple #[.int .i64 0, .int .i64 17]) ∧ W = w' := fun W => (sub_any _ _ W (by decide +kernel) (by decide +kernel)).mono fun e w' ⟨he, hw⟩ => ⟨he.trans (ret2 (by decide +kernel) (by decide +kernel)), hw⟩
      have hmin0 : min (1 : Int) 0 = 0 := by decide
      clear C3 C4
      refine (C1 _).mono ?_
      rintro e w' ⟨rfl, rfl⟩
      clear C1
      go_wp2_with (first | (go_at_call 29; (with_reducible refine (C2' _).mono ?_); rintro e w' ⟨rfl, rfl⟩) | (go_at_call 31; (with_reducible refine (C3' _).mono ?_); rintro e w' ⟨rfl, rfl⟩) | (go_at_call 31; (with_reducible refine (C4' _).mono ?_); rintro e w' ⟨rfl, rfl⟩) | (go_at_call 33; (with_reducible refine (C5 _).mono ?_); rintro e w' ⟨rfl, rfl⟩) | (go_at_call 37; (with_reducible refine (C6 _).mono ?_); rintro e w' ⟨rfl, rfl⟩) | (go_at_call 38; (with_reducible refine (C7 _).mono ?_); rintro e w' ⟨rfl, rfl⟩) | (go_at_call 19; (with_reducible refine K.out.mono ?_); rintro e w' ⟨rfl, hb⟩))
      go_ret
      exact ⟨rfl, hb⟩
  · have j0 : 0 ≤ k := by omega
    have j1 := hk.2
    go_enter Tryd.func9, Tryd.ntmps9
    go_wp2_with fail
    generalize k = j at *
    have C1 : ∀ W, Calls Tryd.prog 29 #[.int .i64 (9223372036854775807 - j), .int .i64 j] W fun e w' => e = .returned (.tuple #[.int .i64 9223372036854775807, .int .i64 0]) ∧ W = w' := fun W => (add_any _ _ W (by apply fits_mk <;> omega) (by apply fits_mk <;> omega)).mono fun e w' ⟨he, hw⟩ => ⟨he.trans (ret2 (by rw [show 9223372036854775807 - j + j = 9223372036854775807 by omega]; exact vt) (by rw [show 9223372036854775807 - j + j = 9223372036854775807 by omega]; exact et)), hw⟩
    have C3 : ∀ W, Calls Tryd.prog 31 #[.int .i64 (-9223372036854775808 + j), .int .i64 j] W fun e w' => e = .returned (.tuple #[.int .i64 (-9223372036854775808), .int .i64 0]) ∧ W = w' := fun W => (sub_any _ _ W (by apply fits_mk <;> omega) (by apply fits_mk <;> omega)).mono fun e w' ⟨he, hw⟩ => ⟨he.trans (ret2 (by rw [show -9223372036854775808 + j - j = -9223372036854775808 by omega]; exact vl) (by rw [show -9223372036854775808 + j - j = -9223372036854775808 by omega]; exact el)), hw⟩
    have C4 : ∀ W, Calls Tryd.prog 31 #[.int .i64 (-9223372036854775808), .int .i64 (1 + j % 3)] W fun e w' => e = .returned (.tuple #[.int .i64 0, .int .i64 17]) ∧ W = w' := fun W => (sub_any _ _ W (by decide +kernel) (by apply fits_mk <;> omega)).mono fun e w' ⟨he, hw⟩ => ⟨he.trans (ret2 (val1_no (by rw [fits_not]; omega)) (err1_no (by rw [fits_not]; omega))), hw⟩
    have C2 : j < 9223372036854775807 → ∀ W, Calls Tryd.prog 29 #[.int .i64 (9223372036854775807 - j), .int .i64 (j + 1)] W fun e w' => e = .returned (.tuple #[.int .i64 0, .int .i64 17]) ∧ W = w' := fun hj W => (add_any _ _ W (by apply fits_mk <;> omega) (by apply fits_mk <;> omega)).mono fun e w' ⟨he, hw⟩ => ⟨he.trans (ret2 (val1_no (by rw [fits_not]; omega)) (err1_no (by rw [fits_not]; omega))), hw⟩
    have C2' : ∀ W, Calls Tryd.prog 29 #[.int .i64 0, .int .i64 9223372036854775807] W fun e w' => e = .returned (.tuple #[.int .i64 9223372036854775807, .int .i64 0]) ∧ W = w' := fun W => (add_any _ _ W (by decide +kernel) (by decide +kernel)).mono fun e w' ⟨he, hw⟩ => ⟨he.trans (ret2 (by decide +kernel) (by decide +kernel)), hw⟩
    clear vt et vl el
    by_cases hj : j < 9223372036854775807
    · have hmin : min 1 (9223372036854775807 - j) = 1 := by omega
      have hne : (j == 9223372036854775807) = false := by rw [beq_eq_false_iff_ne]; omega
      replace C2 := C2 hj
      go_wp2_with (first | (go_at_call 29; (with_reducible refine (C1 _).mono ?_); rintro e w' ⟨rfl, rfl⟩) | (go_at_call 29; (with_reducible refine (C2 _).mono ?_); rintro e w' ⟨rfl, rfl⟩) | (go_at_call 31; (with_reducible refine (C3 _).mono ?_); rintro e w' ⟨rfl, rfl⟩) | (go_at_call 31; (with_reducible refine (C4 _).mono ?_); rintro e w' ⟨rfl, rfl⟩) | (go_at_call 33; (with_reducible refine (C5 _).mono ?_); rintro e w' ⟨rfl, rfl⟩) | (go_at_call 37; (with_reducible refine (C6 _).mono ?_); rintro e w' ⟨rfl, rfl⟩) | (go_at_call 38; (with_reducible refine (C7 _).mono ?_); rintro e w' ⟨rfl, rfl⟩) | (go_at_call 19; (with_reducible refine K.out.mono ?_); rintro e w' ⟨rfl, hb⟩))
      go_ret
      exact ⟨rfl, hb⟩
    · obtain rfl : j = 9223372036854775807 := by omega
      clear C2
      have C3' : ∀ W, Calls Tryd.prog 31 #[.int .i64 (-1), .int .i64 9223372036854775807] W fun e w' => e = .returned (.tuple #[.int .i64 (-9223372036854775808), .int .i64 0]) ∧ W = w' := fun W => (sub_any _ _ W (by decide +kernel) (by decide +kernel)).mono fun e w' ⟨he, hw⟩ => ⟨he.trans (ret2 (by decide +kernel) (by decide +kernel)), hw⟩
      have C4' : ∀ W, Calls Tryd.prog 31 #[.int .i64 (-9223372036854775808), .int .i64 2] W fun e w' => e = .returned (.tuple #[.int .i64 0, .int .i64 17]) ∧ W = w' := fun W => (sub_any _ _ W (by decide +kernel) (by decide +kernel)).mono fun e w' ⟨he, hw⟩ => ⟨he.trans (ret2 (by decide +kernel) (by decide +kernel)), hw⟩
      have hmin0 : min (1 : Int) 0 = 0 := by decide
      clear C3 C4
      refine (C1 _).mono ?_
      rintro e w' ⟨rfl, rfl⟩
      clear C1
      go_wp2_with (first | (go_at_call 29; (with_reducible refine (C2' _).mono ?_); rintro e w' ⟨rfl, rfl⟩) | (go_at_call 31; (with_reducible refine (C3' _).mono ?_); rintro e w' ⟨rfl, rfl⟩) | (go_at_call 31; (with_reducible refine (C4' _).mono ?_); rintro e w' ⟨rfl, rfl⟩) | (go_at_call 33; (with_reducible refine (C5 _).mono ?_); rintro e w' ⟨rfl, rfl⟩) | (go_at_call 37; (with_reducible refine (C6 _).mono ?_); rintro e w' ⟨rfl, rfl⟩) | (go_at_call 38; (with_reducible refine (C7 _).mono ?_); rintro e w' ⟨rfl, rfl⟩) | (go_at_call 19; (with_reducible refine K.out.mono ?_); rintro e w' ⟨rfl, hb⟩))
      go_ret
      exact ⟨rfl, hb⟩
end Go.Proofs.YtcklidpfmpanhaaDoor
