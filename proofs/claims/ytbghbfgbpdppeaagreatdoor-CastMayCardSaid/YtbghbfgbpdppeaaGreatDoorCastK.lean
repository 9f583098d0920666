
/- The kinds of values, asked of cast and of the document: May, Ok, Clean. -/
import Derived.Test.YtbghbfgbpdppeaaGreatDoorCastF
namespace Go.Proofs.YtbghbfgbpdppeaaGreatDoor
open Go.ChangeShapes Go.WideShapes Go.ChangeAt Go.RowKit
set_option linter.unusedVariables false

def mayB (j k : Nat) : Bool := j != 3 || k == 3
theorem may_0_1 (w : World) : Calls Tryz.prog 11 #[.int .i64 0, .int .i64 1] w fun e w' => e = .returned (.bool (mayB 0 1)) ∧ w = w' := by
  go_enter Tryz.func11, Tryz.ntmps11
  go_wp2
  go_ret
  exact ⟨rfl, rfl⟩
theorem may_0_2 (w : World) : Calls Tryz.prog 11 #[.int .i64 0, .int .i64 2] w fun e w' => e = .returned (.bool (mayB 0 2)) ∧ w = w' := by
  go_enter Tryz.func11, Tryz.ntmps11
  go_wp2
  go_ret
  exact ⟨rfl, rfl⟩
theorem may_0_3 (w : World) : Calls Tryz.prog 11 #[.int .i64 0, .int .i64 3] w fun e w' => e = .returned (.bool (mayB 0 3)) ∧ w = w' := by
  go_enter Tryz.func11, Tryz.ntmps11
  go_wp2
  go_ret
  exact ⟨rfl, rfl⟩
theorem may_1_1 (w : World) : Calls Tryz.prog 11 #[.int .i64 1, .int .i64 1] w fun e w' => e = .returned (.bool (mayB 1 1)) ∧ w = w' := by
  go_enter Tryz.func11, Tryz.ntmps11
  go_wp2
  go_ret
  exact ⟨rfl, rfl⟩
theorem may_1_2 (w : World) : Calls Tryz.prog 11 #[.int .i64 1, .int .i64 2] w fun e w' => e = .returned (.bool (mayB 1 2)) ∧ w = w' := by
  go_enter Tryz.func11, Tryz.ntmps11
  go_wp2
  go_ret
  exact ⟨rfl, rfl⟩
theorem may_1_3 (w : World) : Calls Tryz.prog 11 #[.int .i64 1, .int .i64 3] w fun e w' => e = .returned (.bool (mayB 1 3)) ∧ w = w' := by
  go_enter Tryz.func11, Tryz.ntmps11
  go_wp2
  go_ret
  exact ⟨rfl, rfl⟩
theorem may_2_1 (w : World) : Calls Tryz.prog 11 #[.int .i64 2, .int .i64 1] w fun e w' => e = .returned (.bool (mayB 2 1)) ∧ w = w' := by
  go_enter Tryz.func11, Tryz.ntmps11
  go_wp2
  go_ret
  exact ⟨rfl, rfl⟩
theorem may_2_2 (w : World) : Calls Tryz.prog 11 #[.int .i64 2, .int .i64 2] w fun e w' => e = .returned (.bool (mayB 2 2)) ∧ w = w' := by
  go_enter Tryz.func11, Tryz.ntmps11
  go_wp2
  go_ret
  exact ⟨rfl, rfl⟩
theorem may_2_3 (w : World) : Calls Tryz.prog 11 #[.int .i64 2, .int .i64 3] w fun e w' => e = .returned (.bool (mayB 2 3)) ∧ w = w' := by
  go_enter Tryz.func11, Tryz.ntmps11
  go_wp2
  go_ret
  exact ⟨rfl, rfl⟩
theorem may_3_1 (w : World) : Calls Tryz.prog 11 #[.int .i64 3, .int .i64 1] w fun e w' => e = .returned (.bool (mayB 3 1)) ∧ w = w' := by
  go_enter Tryz.func11, Tryz.ntmps11
  go_wp2
  go_ret
  exact ⟨rfl, rfl⟩
theorem may_3_2 (w : World) : Calls Tryz.prog 11 #[.int .i64 3, .int .i64 2] w fun e w' => e = .returned (.bool (mayB 3 2)) ∧ w = w' := by
  go_enter Tryz.func11, Tryz.ntmps11
  go_wp2
  go_ret
  exact ⟨rfl, rfl⟩
theorem may_3_3 (w : World) : Calls Tryz.prog 11 #[.int .i64 3, .int .i64 3] w fun e w' => e = .returned (.bool (mayB 3 3)) ∧ w = w' := by
  go_enter Tryz.func11, Tryz.ntmps11
  go_wp2
  go_ret
  exact ⟨rfl, rfl⟩
theorem may_any (j k : Nat) (hj : j ≤ 3) (h1 : 1 ≤ k) (h3 : k ≤ 3) (w : World) : Calls Tryz.prog 11 #[.int .i64 j, .int .i64 k] w fun e w' => e = .returned (.bool (mayB j k)) ∧ w = w' := by
  have a : j = 0 ∨ j = 1 ∨ j = 2 ∨ j = 3 := by omega
  have b : k = 1 ∨ k = 2 ∨ k = 3 := by omega
  rcases a with rfl | rfl | rfl | rfl <;> rcases b with rfl | rfl | rfl
  · exact may_0_1 w
  · exact may_0_2 w
  · exact may_0_3 w
  · exact may_1_1 w
  · exact may_1_2 w
  · exact may_1_3 w
  · exact may_2_1 w
  · exact may_2_2 w
  · exact may_2_3 w
  · exact may_3_1 w
  · exact may_3_2 w
  · exact may_3_3 w
theorem rmay_0_1 (w : World) : Calls Tryz.prog 12 #[.int .i64 0, .int .i64 1] w fun e w' => e = .returned (.bool (mayB 0 1)) ∧ w = w' := by
  go_enter Tryz.func12, Tryz.ntmps12
  go_wp2
  go_ret
  exact ⟨rfl, rfl⟩
theorem rmay_0_2 (w : World) : Calls Tryz.prog 12 #[.int .i64 0, .int .i64 2] w fun e w' => e = .returned (.bool (mayB 0 2)) ∧ w = w' := by
  go_enter Tryz.func12, Tryz.ntmps12
  go_wp2
  go_ret
  exact ⟨rfl, rfl⟩
theorem rmay_0_3 (w : World) : Calls Tryz.prog 12 #[.int .i64 0, .int .i64 3] w fun e w' => e = .returned (.bool (mayB 0 3)) ∧ w = w' := by
  go_enter Tryz.func12, Tryz.ntmps12
  go_wp2
  go_ret
  exact ⟨rfl, rfl⟩
theorem rmay_1_1 (w : World) : Calls Tryz.prog 12 #[.int .i64 1, .int .i64 1] w fun e w' => e = .returned (.bool (mayB 1 1)) ∧ w = w' := by
  go_enter Tryz.func12, Tryz.ntmps12
  go_wp2
  go_ret
  exact ⟨rfl, rfl⟩
theorem rmay_1_2 (w : World) : Calls Tryz.prog 12 #[.int .i64 1, .int .i64 2] w fun e w' => e = .returned (.bool (mayB 1 2)) ∧ w = w' := by
  go_enter Tryz.func12, Tryz.ntmps12
  go_wp2
  go_ret
  exact ⟨rfl, rfl⟩
theorem rmay_1_3 (w : World) : Calls Tryz.prog 12 #[.int .i64 1, .int .i64 3] w fun e w' => e = .returned (.bool (mayB 1 3)) ∧ w = w' := by
  go_enter Tryz.func12, Tryz.ntmps12
  go_wp2
  go_ret
  exact ⟨rfl, rfl⟩
theorem rmay_2_1 (w : World) : Calls Tryz.prog 12 #[.int .i64 2, .int .i64 1] w fun e w' => e = .returned (.bool (mayB 2 1)) ∧ w = w' := by
  go_enter Tryz.func12, Tryz.ntmps12
  go_wp2
  go_ret
  exact ⟨rfl, rfl⟩
theorem rmay_2_2 (w : World) : Calls Tryz.prog 12 #[.int .i64 2, .int .i64 2] w fun e w' => e = .returned (.bool (mayB 2 2)) ∧ w = w' := by
  go_enter Tryz.func12, Tryz.ntmps12
  go_wp2
  go_ret
  exact ⟨rfl, rfl⟩
theorem rmay_2_3 (w : World) : Calls Tryz.prog 12 #[.int .i64 2, .int .i64 3] w fun e w' => e = .returned (.bool (mayB 2 3)) ∧ w = w' := by
  go_enter Tryz.func12, Tryz.ntmps12
  go_wp2
  go_ret
  exact ⟨rfl, rfl⟩
theorem rmay_3_1 (w : World) : Calls Tryz.prog 12 #[.int .i64 3, .int .i64 1] w fun e w' => e = .returned (.bool (mayB 3 1)) ∧ w = w' := by
  go_enter Tryz.func12, Tryz.ntmps12
  go_wp2
  go_ret
  exact ⟨rfl, rfl⟩
theorem rmay_3_2 (w : World) : Calls Tryz.prog 12 #[.int .i64 3, .int .i64 2] w fun e w' => e = .returned (.bool (mayB 3 2)) ∧ w = w' := by
  go_enter Tryz.func12, Tryz.ntmps12
  go_wp2
  go_ret
  exact ⟨rfl, rfl⟩
theorem rmay_3_3 (w : World) : Calls Tryz.prog 12 #[.int .i64 3, .int .i64 3] w fun e w' => e = .returned (.bool (mayB 3 3)) ∧ w = w' := by
  go_enter Tryz.func12, Tryz.ntmps12
  go_wp2
  go_ret
  exact ⟨rfl, rfl⟩
theorem rmay_any (j k : Nat) (hj : j ≤ 3) (h1 : 1 ≤ k) (h3 : k ≤ 3) (w : World) : Calls Tryz.prog 12 #[.int .i64 j, .int .i64 k] w fun e w' => e = .returned (.bool (mayB j k)) ∧ w = w' := by
  have a : j = 0 ∨ j = 1 ∨ j = 2 ∨ j = 3 := by omega
  have b : k = 1 ∨ k = 2 ∨ k = 3 := by omega
  rcases a with rfl | rfl | rfl | rfl <;> rcases b with rfl | rfl | rfl
  · exact rmay_0_1 w
  · exact rmay_0_2 w
  · exact rmay_0_3 w
  · exact rmay_1_1 w
  · exact rmay_1_2 w
  · exact rmay_1_3 w
  · exact rmay_2_1 w
  · exact rmay_2_2 w
  · exact rmay_2_3 w
  · exact rmay_3_1 w
  · exact rmay_3_2 w
  · exact rmay_3_3 w
end Go.Proofs.YtbghbfgbpdppeaaGreatDoor
