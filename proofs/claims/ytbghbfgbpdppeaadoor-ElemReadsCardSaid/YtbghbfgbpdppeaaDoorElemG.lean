
/- elem.Make of the three weights that the look asks for. -/
import Derived.Test.YtbghbfgbpdppeaaDoorElemF
namespace Go.Proofs.YtbghbfgbpdppeaaDoor
open Go.ChangeShapes Go.WideShapes Go.ChangeAt Go.RowKit
set_option linter.unusedVariables false

set_option maxRecDepth 100000 in
theorem make_awake (w : World) :
    Calls Tryd.prog 23 #[.int .i64 256, .int .i64 32, .int .i64 2, .bool false] w fun e w' => e = .returned (.tuple #[.int .u32 16785412, .int .i64 0]) ∧ w = w' := by
  have F1 := Lib.hid (fun W => field_1 W)
  have F2 := Lib.hid (fun W => field_2 W)
  have F3 := Lib.hid (fun W => field_3 W)
  have U1 : Hid (∀ W, Calls Tryd.prog 19 #[.int .u32 0, .int .i64 1, .int .i64 256] W fun e w' => e = .returned (.int .u32 16777216) ∧ W = w') := Lib.hid (fun W => by have h := with_1 0 256 W (by decide); exact h)
  have U2 : Hid (∀ W, Calls Tryd.prog 19 #[.int .u32 16777216, .int .i64 2, .int .i64 32] W fun e w' => e = .returned (.int .u32 16785408) ∧ W = w') := Lib.hid (fun W => by have h := with_2 16777216 32 W (by decide); exact h)
  have U3 : Hid (∀ W, Calls Tryd.prog 19 #[.int .u32 16785408, .int .i64 3, .int .i64 2] W fun e w' => e = .returned (.int .u32 16785412) ∧ W = w') := Lib.hid (fun W => by have h := with_3 16785408 2 W (by decide); exact h)
  have i0 : ∀ W, (Instr.index 89 (.agg #[.int .i64 256, .int .i64 32, .int .i64 2]) (.int .i64 0)).run Tryd.prog W = .ok (.int .i64 256) W := fun _ => by kernel_rfl
  have i1 : ∀ W, (Instr.index 89 (.agg #[.int .i64 256, .int .i64 32, .int .i64 2]) (.int .i64 1)).run Tryd.prog W = .ok (.int .i64 32) W := fun _ => by kernel_rfl
  have i2 : ∀ W, (Instr.index 89 (.agg #[.int .i64 256, .int .i64 32, .int .i64 2]) (.int .i64 2)).run Tryd.prog W = .ok (.int .i64 2) W := fun _ => by kernel_rfl
  go_enter Tryd.func23, Tryd.ntmps23
  go_wp2
  go_loop [10, 19] (fun e i => (e = .int .u32 0 ∧ i = .int .i64 0) ∨ (e = .int .u32 16777216 ∧ i = .int .i64 1) ∨ (e = .int .u32 16785408 ∧ i = .int .i64 2) ∨ (e = .int .u32 16785412 ∧ i = .int .i64 3)) (fun _ i => 3 - (intOf i).toNat)
  case atStart => exact Or.inl ⟨rfl, rfl⟩
  case round =>
    rcases hrel with ⟨rfl, rfl⟩ | ⟨rfl, rfl⟩ | ⟨rfl, rfl⟩ | ⟨rfl, rfl⟩
    · go_wp2_with (first
        | (go_at_call 46; (with_reducible refine (F1.out _).mono ?_); rintro e w' ⟨rfl, rfl⟩)
        | (go_at_call 19; (with_reducible refine (U1.out _).mono ?_); rintro e w' ⟨rfl, rfl⟩))
      go_round
      case rel => exact Or.inr (Or.inl ⟨rfl, by go_num⟩)
      case measure => simp [intOf]
    · go_wp2_with (first
        | (go_at_call 46; (with_reducible refine (F2.out _).mono ?_); rintro e w' ⟨rfl, rfl⟩)
        | (go_at_call 19; (with_reducible refine (U2.out _).mono ?_); rintro e w' ⟨rfl, rfl⟩))
      go_round
      case rel => exact Or.inr (Or.inr (Or.inl ⟨rfl, by go_num⟩))
      case measure => simp [intOf]
    · go_wp2_with (first
        | (go_at_call 46; (with_reducible refine (F3.out _).mono ?_); rintro e w' ⟨rfl, rfl⟩)
        | (go_at_call 19; (with_reducible refine (U3.out _).mono ?_); rintro e w' ⟨rfl, rfl⟩))
      go_round
      case rel => exact Or.inr (Or.inr (Or.inr ⟨rfl, by go_num⟩))
      case measure => simp [intOf]
    · go_wp2
      go_ret2
      exact ⟨rfl, rfl⟩
end Go.Proofs.YtbghbfgbpdppeaaDoor
