
/- Whether numbers are signs (utext.Sign, slices.ContainsFunc over its denial). -/
import Derived.Test.YtmpnblibbcocpaaDoorTextE
namespace Go.Proofs.YtmpnblibbcocpaaDoor
open Go.ChangeShapes Go.WideShapes Go.ChangeAt Go.RowKit Go.Lib
set_option linter.unusedVariables false

def isZ (c : Int) : Bool := decide ((0 ≤ c ∧ c < 55296) ∨ (57344 ≤ c ∧ c < 1114112) ∨ (1114240 ≤ c ∧ c ≤ 1114367))
theorem retb {a b : Bool} (h : a = b) : Ending.returned (.bool a) = .returned (.bool b) := by rw [h]
theorem isZ_nat (c : Nat) : isZ (c : Int) = isSg c := by
  unfold isZ isSg
  rw [decide_eq_decide]
  omega

theorem sign0 (c : Int) (w : World) (h : c < 0) : Calls Tryd.prog 39 #[.int .i64 c] w fun e w' => e = .returned (.bool false) ∧ w = w' := by
  go_enter Tryd.func39, Tryd.ntmps39
  go_wp2
  go_ret
  exact ⟨retb (by first | rfl | (simp; omega)), rfl⟩
theorem sign1 (c : Int) (w : World) (h : ¬ c < 0) (h2 : c < 55296) : Calls Tryd.prog 39 #[.int .i64 c] w fun e w' => e = .returned (.bool true) ∧ w = w' := by
  go_enter Tryd.func39, Tryd.ntmps39
  go_wp2
  go_ret
  exact ⟨retb (by first | rfl | (simp; omega)), rfl⟩
theorem sign2 (c : Int) (w : World) (h : ¬ c < 0) (h2 : ¬ c < 55296) (h3 : c < 57344) : Calls Tryd.prog 39 #[.int .i64 c] w fun e w' => e = .returned (.bool false) ∧ w = w' := by
  go_enter Tryd.func39, Tryd.ntmps39
  go_wp2
  go_ret
  exact ⟨retb (by first | rfl | (simp; omega)), rfl⟩
theorem sign3 (c : Int) (w : World) (h : ¬ c < 0) (h2 : ¬ c < 55296) (h3 : ¬ c < 57344) (h4 : c < 1114112) : Calls Tryd.prog 39 #[.int .i64 c] w fun e w' => e = .returned (.bool true) ∧ w = w' := by
  go_enter Tryd.func39, Tryd.ntmps39
  go_wp2
  go_ret
  exact ⟨retb (by first | rfl | (simp; omega)), rfl⟩
theorem sign4 (c : Int) (w : World) (h : ¬ c < 0) (h2 : ¬ c < 55296) (h3 : ¬ c < 57344) (h4 : ¬ c < 1114112) (h5 : c < 1114240) : Calls Tryd.prog 39 #[.int .i64 c] w fun e w' => e = .returned (.bool false) ∧ w = w' := by
  go_enter Tryd.func39, Tryd.ntmps39
  go_wp2
  go_ret
  exact ⟨retb (by first | rfl | (simp; omega)), rfl⟩
theorem sign5 (c : Int) (w : World) (h : ¬ c < 0) (h2 : ¬ c < 55296) (h3 : ¬ c < 57344) (h4 : ¬ c < 1114112) (h5 : ¬ c < 1114240) (h6 : c ≤ 1114367) : Calls Tryd.prog 39 #[.int .i64 c] w fun e w' => e = .returned (.bool true) ∧ w = w' := by
  go_enter Tryd.func39, Tryd.ntmps39
  go_wp2
  go_ret
  exact ⟨retb (by first | rfl | (simp; omega)), rfl⟩
theorem sign6 (c : Int) (w : World) (h : ¬ c < 0) (h2 : ¬ c < 55296) (h3 : ¬ c < 57344) (h4 : ¬ c < 1114112) (h5 : ¬ c < 1114240) (h6 : ¬ c ≤ 1114367) : Calls Tryd.prog 39 #[.int .i64 c] w fun e w' => e = .returned (.bool false) ∧ w = w' := by
  go_enter Tryd.func39, Tryd.ntmps39
  go_wp2
  go_ret
  exact ⟨retb (by first | rfl | (simp; omega)), rfl⟩
theorem Sign_any (c : Int) (w : World) : Calls Tryd.prog 39 #[.int .i64 c] w fun e w' => e = .returned (.bool (isZ c)) ∧ w = w' := by
  by_cases h : c < 0
  · have e : isZ c = false := by unfold isZ; simp; omega
    rw [e]
    exact sign0 c w h
  by_cases h2 : c < 55296
  · have e : isZ c = true := by unfold isZ; simp; omega
    rw [e]
    exact sign1 c w h h2
  by_cases h3 : c < 57344
  · have e : isZ c = false := by unfold isZ; simp; omega
    rw [e]
    exact sign2 c w h h2 h3
  by_cases h4 : c < 1114112
  · have e : isZ c = true := by unfold isZ; simp; omega
    rw [e]
    exact sign3 c w h h2 h3 h4
  by_cases h5 : c < 1114240
  · have e : isZ c = false := by unfold isZ; simp; omega
    rw [e]
    exact sign4 c w h h2 h3 h4 h5
  by_cases h6 : c ≤ 1114367
  · have e : isZ c = true := by unfold isZ; simp; omega
    rw [e]
    exact sign5 c w h h2 h3 h4 h5 h6
  have e : isZ c = false := by unfold isZ; simp; omega
  rw [e]
  exact sign6 c w h h2 h3 h4 h5 h6

end Go.Proofs.YtmpnblibbcocpaaDoor
