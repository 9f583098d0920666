
/- The document's digits to sixteen: what a slice of them is. -/
import Derived.Test.YtbghbfgbpdppeaaDoorElemD
namespace Go.Proofs.YtbghbfgbpdppeaaDoor
open Go.ChangeShapes Go.WideShapes Go.ChangeAt Go.RowKit
set_option linter.unusedVariables false

theorem sd0 (W : World) : (Instr.slice 9 (.string ⟨#[48, 49, 50, 51, 52, 53, 54, 55, 56, 57, 97, 98, 99, 100, 101, 102]⟩) (some (.int .i64 0)) (some (.int .i64 1)) none).run Tryd.prog W = .ok (.string ⟨#[hxd 0]⟩) W := by kernel_rfl
theorem sd1 (W : World) : (Instr.slice 9 (.string ⟨#[48, 49, 50, 51, 52, 53, 54, 55, 56, 57, 97, 98, 99, 100, 101, 102]⟩) (some (.int .i64 1)) (some (.int .i64 2)) none).run Tryd.prog W = .ok (.string ⟨#[hxd 1]⟩) W := by kernel_rfl
theorem sd2 (W : World) : (Instr.slice 9 (.string ⟨#[48, 49, 50, 51, 52, 53, 54, 55, 56, 57, 97, 98, 99, 100, 101, 102]⟩) (some (.int .i64 2)) (some (.int .i64 3)) none).run Tryd.prog W = .ok (.string ⟨#[hxd 2]⟩) W := by kernel_rfl
theorem sd3 (W : World) : (Instr.slice 9 (.string ⟨#[48, 49, 50, 51, 52, 53, 54, 55, 56, 57, 97, 98, 99, 100, 101, 102]⟩) (some (.int .i64 3)) (some (.int .i64 4)) none).run Tryd.prog W = .ok (.string ⟨#[hxd 3]⟩) W := by kernel_rfl
theorem sd4 (W : World) : (Instr.slice 9 (.string ⟨#[48, 49, 50, 51, 52, 53, 54, 55, 56, 57, 97, 98, 99, 100, 101, 102]⟩) (some (.int .i64 4)) (some (.int .i64 5)) none).run Tryd.prog W = .ok (.string ⟨#[hxd 4]⟩) W := by kernel_rfl
theorem sd5 (W : World) : (Instr.slice 9 (.string ⟨#[48, 49, 50, 51, 52, 53, 54, 55, 56, 57, 97, 98, 99, 100, 101, 102]⟩) (some (.int .i64 5)) (some (.int .i64 6)) none).run Tryd.prog W = .ok (.string ⟨#[hxd 5]⟩) W := by kernel_rfl
theorem sd6 (W : World) : (Instr.slice 9 (.string ⟨#[48, 49, 50, 51, 52, 53, 54, 55, 56, 57, 97, 98, 99, 100, 101, 102]⟩) (some (.int .i64 6)) (some (.int .i64 7)) none).run Tryd.prog W = .ok (.string ⟨#[hxd 6]⟩) W := by kernel_rfl
theorem sd7 (W : World) : (Instr.slice 9 (.string ⟨#[48, 49, 50, 51, 52, 53, 54, 55, 56, 57, 97, 98, 99, 100, 101, 102]⟩) (some (.int .i64 7)) (some (.int .i64 8)) none).run Tryd.prog W = .ok (.string ⟨#[hxd 7]⟩) W := by kernel_rfl
theorem sd8 (W : World) : (Instr.slice 9 (.string ⟨#[48, 49, 50, 51, 52, 53, 54, 55, 56, 57, 97, 98, 99, 100, 101, 102]⟩) (some (.int .i64 8)) (some (.int .i64 9)) none).run Tryd.prog W = .ok (.string ⟨#[hxd 8]⟩) W := by kernel_rfl
theorem sd9 (W : World) : (Instr.slice 9 (.string ⟨#[48, 49, 50, 51, 52, 53, 54, 55, 56, 57, 97, 98, 99, 100, 101, 102]⟩) (some (.int .i64 9)) (some (.int .i64 10)) none).run Tryd.prog W = .ok (.string ⟨#[hxd 9]⟩) W := by kernel_rfl
theorem sd10 (W : World) : (Instr.slice 9 (.string ⟨#[48, 49, 50, 51, 52, 53, 54, 55, 56, 57, 97, 98, 99, 100, 101, 102]⟩) (some (.int .i64 10)) (some (.int .i64 11)) none).run Tryd.prog W = .ok (.string ⟨#[hxd 10]⟩) W := by kernel_rfl
theorem sd11 (W : World) : (Instr.slice 9 (.string ⟨#[48, 49, 50, 51, 52, 53, 54, 55, 56, 57, 97, 98, 99, 100, 101, 102]⟩) (some (.int .i64 11)) (some (.int .i64 12)) none).run Tryd.prog W = .ok (.string ⟨#[hxd 11]⟩) W := by kernel_rfl
theorem sd12 (W : World) : (Instr.slice 9 (.string ⟨#[48, 49, 50, 51, 52, 53, 54, 55, 56, 57, 97, 98, 99, 100, 101, 102]⟩) (some (.int .i64 12)) (some (.int .i64 13)) none).run Tryd.prog W = .ok (.string ⟨#[hxd 12]⟩) W := by kernel_rfl
theorem sd13 (W : World) : (Instr.slice 9 (.string ⟨#[48, 49, 50, 51, 52, 53, 54, 55, 56, 57, 97, 98, 99, 100, 101, 102]⟩) (some (.int .i64 13)) (some (.int .i64 14)) none).run Tryd.prog W = .ok (.string ⟨#[hxd 13]⟩) W := by kernel_rfl
theorem sd14 (W : World) : (Instr.slice 9 (.string ⟨#[48, 49, 50, 51, 52, 53, 54, 55, 56, 57, 97, 98, 99, 100, 101, 102]⟩) (some (.int .i64 14)) (some (.int .i64 15)) none).run Tryd.prog W = .ok (.string ⟨#[hxd 14]⟩) W := by kernel_rfl
theorem sd15 (W : World) : (Instr.slice 9 (.string ⟨#[48, 49, 50, 51, 52, 53, 54, 55, 56, 57, 97, 98, 99, 100, 101, 102]⟩) (some (.int .i64 15)) (some (.int .i64 16)) none).run Tryd.prog W = .ok (.string ⟨#[hxd 15]⟩) W := by kernel_rfl
theorem sd (k : Nat) (hk : k < 16) (W : World) : (Instr.slice 9 (.string ⟨#[48, 49, 50, 51, 52, 53, 54, 55, 56, 57, 97, 98, 99, 100, 101, 102]⟩) (some (.int .i64 (k : Int))) (some (.int .i64 ((k : Int) + 1))) none).run Tryd.prog W = .ok (.string ⟨#[hxd k]⟩) W := by
  have h : k = 0 ∨ k = 1 ∨ k = 2 ∨ k = 3 ∨ k = 4 ∨ k = 5 ∨ k = 6 ∨ k = 7 ∨ k = 8 ∨ k = 9 ∨ k = 10 ∨ k = 11 ∨ k = 12 ∨ k = 13 ∨ k = 14 ∨ k = 15 := by omega
  rcases h with rfl | rfl | rfl | rfl | rfl | rfl | rfl | rfl | rfl | rfl | rfl | rfl | rfl | rfl | rfl | rfl
  · exact sd0 W
  · exact sd1 W
  · exact sd2 W
  · exact sd3 W
  · exact sd4 W
  · exact sd5 W
  · exact sd6 W
  · exact sd7 W
  · exact sd8 W
  · exact sd9 W
  · exact sd10 W
  · exact sd11 W
  · exact sd12 W
  · exact sd13 W
  · exact sd14 W
  · exact sd15 W
end Go.Proofs.YtbghbfgbpdppeaaDoor
