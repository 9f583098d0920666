
/- Sums, differences, negatives of package ints and of the document's answer: what each returns for every two numbers of 64 bits. -/
import Derived.Test.YtbghbfgbpdppeaaGreatDoorRows
import Derived.WalkKit
import Derived.ProofKit
import Derived.OpenShut
import Derived.Outline
import Derived.WalkLawsBesides
import Derived.Lib.Hide
namespace Go.Proofs.YtbghbfgbpdppeaaGreatDoor
open Go.ChangeShapes Go.WideShapes Go.ChangeAt Go.RowKit

/-- does it fit 64 bits -/
def fits (x : Int) : Bool := decide (-9223372036854775808 ≤ x ∧ x ≤ 9223372036854775807)
def val1 (x : Int) : Int := if fits x then x else 0
def err1 (x : Int) : Int := if fits x then 0 else 17
theorem fits_iff (x : Int) : fits x = true ↔ (-9223372036854775808 ≤ x ∧ x ≤ 9223372036854775807) := by simp [fits]
theorem fits_not (x : Int) : fits x = false ↔ (x < -9223372036854775808 ∨ 9223372036854775807 < x) := by simp [fits]; omega
theorem val1_yes {x : Int} (h : fits x = true) : val1 x = x := by simp [val1, h]
theorem err1_yes {x : Int} (h : fits x = true) : err1 x = 0 := by simp [err1, h]
theorem val1_no {x : Int} (h : fits x = false) : val1 x = 0 := by simp [val1, h]
theorem err1_no {x : Int} (h : fits x = false) : err1 x = 17 := by simp [err1, h]
theorem val1_fits (x : Int) : fits (val1 x) = true := by
  unfold val1
  split
  · assumption
  · decide +kernel
theorem w64_in {x : Int} (h : fits x = true) : wrap64 x = x := by
  have := (fits_iff x).1 h
  unfold wrap64; omega
theorem w64_hi {x : Int} (h : 9223372036854775807 < x) (h2 : x ≤ 18446744073709551615) : wrap64 x = x - 18446744073709551616 := by unfold wrap64; omega
theorem w64_lo {x : Int} (h : x < -9223372036854775808) (h2 : -18446744073709551616 ≤ x) : wrap64 x = x + 18446744073709551616 := by unfold wrap64; omega

theorem add_any (a b : Int) (w : World) (ha : fits a = true) (hb : fits b = true) :
    Calls Tryz.prog 37 #[.int .i64 a, .int .i64 b] w fun e w' => e = .returned (.tuple #[.int .i64 (val1 (a + b)), .int .i64 (err1 (a + b))]) ∧ w = w' := by
  cases hf : fits (a + b)
  · rw [val1_no hf, err1_no hf]
    rw [fits_iff] at ha hb
    rw [fits_not] at hf
    rcases hf with hf | hf
    · have h1 : a < 0 := by omega
      have h2 : b < 0 := by omega
      have h3 : ¬ wrap64 (a + b) < 0 := by rw [w64_lo hf (by omega)]; omega
      go_enter Tryz.func37, Tryz.ntmps37
      go_wp2
      go_ret2
      exact ⟨rfl, rfl⟩
    · have h1 : ¬ a < 0 := by omega
      have h2 : ¬ b < 0 := by omega
      have h3 : wrap64 (a + b) < 0 := by rw [w64_hi hf (by omega)]; omega
      go_enter Tryz.func37, Tryz.ntmps37
      go_wp2
      go_ret2
      exact ⟨rfl, rfl⟩
  · rw [val1_yes hf, err1_yes hf]
    rw [fits_iff] at ha hb hf
    by_cases h1 : a < 0
    · by_cases h2 : b < 0
      · have h3 : a + b < 0 := by omega
        go_enter Tryz.func37, Tryz.ntmps37
        go_wp2
        go_ret2
        exact ⟨rfl, rfl⟩
      · go_enter Tryz.func37, Tryz.ntmps37
        go_wp2
        go_ret2
        exact ⟨rfl, rfl⟩
    · by_cases h2 : b < 0
      · go_enter Tryz.func37, Tryz.ntmps37
        go_wp2
        go_ret2
        exact ⟨rfl, rfl⟩
      · have h3 : ¬ a + b < 0 := by omega
        go_enter Tryz.func37, Tryz.ntmps37
        go_wp2
        go_ret2
        exact ⟨rfl, rfl⟩

theorem sub_any (a b : Int) (w : World) (ha : fits a = true) (hb : fits b = true) :
    Calls Tryz.prog 38 #[.int .i64 a, .int .i64 b] w fun e w' => e = .returned (.tuple #[.int .i64 (val1 (a - b)), .int .i64 (err1 (a - b))]) ∧ w = w' := by
  cases hf : fits (a - b)
  · rw [val1_no hf, err1_no hf]
    rw [fits_iff] at ha hb
    rw [fits_not] at hf
    rcases hf with hf | hf
    · have h1 : a < 0 := by omega
      have h2 : ¬ b < 0 := by omega
      have h3 : ¬ wrap64 (a - b) < 0 := by rw [w64_lo hf (by omega)]; omega
      go_enter Tryz.func38, Tryz.ntmps38
      go_wp2
      go_ret2
      exact ⟨rfl, rfl⟩
    · have h1 : ¬ a < 0 := by omega
      have h2 : b < 0 := by omega
      have h3 : wrap64 (a - b) < 0 := by rw [w64_hi hf (by omega)]; omega
      go_enter Tryz.func38, Tryz.ntmps38
      go_wp2
      go_ret2
      exact ⟨rfl, rfl⟩
  · rw [val1_yes hf, err1_yes hf]
    rw [fits_iff] at ha hb hf
    by_cases h1 : a < 0
    · by_cases h2 : b < 0
      · go_enter Tryz.func38, Tryz.ntmps38
        go_wp2
        go_ret2
        exact ⟨rfl, rfl⟩
      · have h3 : a - b < 0 := by omega
        go_enter Tryz.func38, Tryz.ntmps38
        go_wp2
        go_ret2
        exact ⟨rfl, rfl⟩
    · by_cases h2 : b < 0
      · have h3 : ¬ a - b < 0 := by omega
        go_enter Tryz.func38, Tryz.ntmps38
        go_wp2
        go_ret2
        exact ⟨rfl, rfl⟩
      · go_enter Tryz.func38, Tryz.ntmps38
        go_wp2
        go_ret2
        exact ⟨rfl, rfl⟩

theorem neg_any (a : Int) (w : World) (ha : fits a = true) :
    Calls Tryz.prog 31 #[.int .i64 a] w fun e w' => e = .returned (.tuple #[.int .i64 (val1 (-a)), .int .i64 (err1 (-a))]) ∧ w = w' := by
  have C := sub_any 0 a w (by decide +kernel) ha
  rw [Int.zero_sub] at C
  replace C := Lib.hid C
  go_enter Tryz.func31, Tryz.ntmps31
  go_wp2_with (go_at_call 38; refine C.out.mono ?_; rintro e w' ⟨rfl, rfl⟩)
  go_ret2
  exact ⟨rfl, rfl⟩

end Go.Proofs.YtbghbfgbpdppeaaGreatDoor
