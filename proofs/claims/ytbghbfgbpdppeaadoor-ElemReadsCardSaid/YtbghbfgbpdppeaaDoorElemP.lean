
/- The document's hex of a number, with two and with four digits. -/
import Derived.Test.YtbghbfgbpdppeaaDoorElemO
namespace Go.Proofs.YtbghbfgbpdppeaaDoor
open Go.ChangeShapes Go.WideShapes Go.ChangeAt Go.RowKit
set_option linter.unusedVariables false

set_option maxRecDepth 100000 in
theorem rhexI2 (u d0 d1 : Int) (c0 c1 T1 T2 : ByteArray) (w : World) (hu : 0 ≤ u) (hu2 : u ≤ 65535)
    (E0 : bits .and .i64 (u) 15 = d0) (L0 : ∀ W, (Instr.slice 9 (.string ⟨#[48, 49, 50, 51, 52, 53, 54, 55, 56, 57, 97, 98, 99, 100, 101, 102]⟩) (some (.int .i64 d0)) (some (.int .i64 (d0 + 1))) none).run Tryd.prog W = .ok (.string c0) W) (A0 : Hid (c0 ++ ({ data := #[] } : ByteArray) = T1)) (s0 : c0.size = 1) (r0 : T1.size = 1) (g0 : 0 ≤ d0) (b0 : d0 ≤ 15)
    (E1 : bits .and .i64 (u / 16) 15 = d1) (L1 : ∀ W, (Instr.slice 9 (.string ⟨#[48, 49, 50, 51, 52, 53, 54, 55, 56, 57, 97, 98, 99, 100, 101, 102]⟩) (some (.int .i64 d1)) (some (.int .i64 (d1 + 1))) none).run Tryd.prog W = .ok (.string c1) W) (A1 : Hid (c1 ++ T1 = T2)) (s1 : c1.size = 1) (r1 : T2.size = 2) (g1 : 0 ≤ d1) (b1 : d1 ≤ 15)
    : Calls Tryd.prog 50 #[.int .i64 u, .int .i64 2] w fun e w' => e = .returned (.string T2) ∧ w = w' := by
  go_enter Tryd.func50, Tryd.ntmps50
  go_wp2
  go_loop [5, 6] (fun s i => (i = .int .i64 0 ∧ s = .string ({ data := #[] } : ByteArray)) ∨ (i = .int .i64 1 ∧ s = .string T1) ∨ (i = .int .i64 2 ∧ s = .string T2)) (fun _ i => 2 - (intOf i).toNat)
  case atStart => exact Or.inl ⟨rfl, rfl⟩
  case round =>
    rcases hrel with ⟨rfl, rfl⟩ | ⟨rfl, rfl⟩ | ⟨rfl, rfl⟩
    · go_wp2
      go_round
      case rel => exact Or.inr (Or.inl ⟨by go_num, by rw [← A0.out]⟩)
      case measure => simp [intOf]
    · go_wp2
      go_round
      case rel => exact Or.inr (Or.inr (⟨by go_num, by rw [← A1.out]⟩))
      case measure => simp [intOf]
    · go_wp2
      go_ret
      exact ⟨rfl, rfl⟩
set_option maxRecDepth 100000 in
theorem rhexI4 (u d0 d1 d2 d3 : Int) (c0 c1 c2 c3 T1 T2 T3 T4 : ByteArray) (w : World) (hu : 0 ≤ u) (hu2 : u ≤ 65535)
    (E0 : bits .and .i64 (u) 15 = d0) (L0 : ∀ W, (Instr.slice 9 (.string ⟨#[48, 49, 50, 51, 52, 53, 54, 55, 56, 57, 97, 98, 99, 100, 101, 102]⟩) (some (.int .i64 d0)) (some (.int .i64 (d0 + 1))) none).run Tryd.prog W = .ok (.string c0) W) (A0 : Hid (c0 ++ ({ data := #[] } : ByteArray) = T1)) (s0 : c0.size = 1) (r0 : T1.size = 1) (g0 : 0 ≤ d0) (b0 : d0 ≤ 15)
    (E1 : bits .and .i64 (u / 16) 15 = d1) (L1 : ∀ W, (Instr.slice 9 (.string ⟨#[48, 49, 50, 51, 52, 53, 54, 55, 56, 57, 97, 98, 99, 100, 101, 102]⟩) (some (.int .i64 d1)) (some (.int .i64 (d1 + 1))) none).run Tryd.prog W = .ok (.string c1) W) (A1 : Hid (c1 ++ T1 = T2)) (s1 : c1.size = 1) (r1 : T2.size = 2) (g1 : 0 ≤ d1) (b1 : d1 ≤ 15)
    (E2 : bits .and .i64 (u / 256) 15 = d2) (L2 : ∀ W, (Instr.slice 9 (.string ⟨#[48, 49, 50, 51, 52, 53, 54, 55, 56, 57, 97, 98, 99, 100, 101, 102]⟩) (some (.int .i64 d2)) (some (.int .i64 (d2 + 1))) none).run Tryd.prog W = .ok (.string c2) W) (A2 : Hid (c2 ++ T2 = T3)) (s2 : c2.size = 1) (r2 : T3.size = 3) (g2 : 0 ≤ d2) (b2 : d2 ≤ 15)
    (E3 : bits .and .i64 (u / 4096) 15 = d3) (L3 : ∀ W, (Instr.slice 9 (.string ⟨#[48, 49, 50, 51, 52, 53, 54, 55, 56, 57, 97, 98, 99, 100, 101, 102]⟩) (some (.int .i64 d3)) (some (.int .i64 (d3 + 1))) none).run Tryd.prog W = .ok (.string c3) W) (A3 : Hid (c3 ++ T3 = T4)) (s3 : c3.size = 1) (r3 : T4.size = 4) (g3 : 0 ≤ d3) (b3 : d3 ≤ 15)
    : Calls Tryd.prog 50 #[.int .i64 u, .int .i64 4] w fun e w' => e = .returned (.string T4) ∧ w = w' := by
  go_enter Tryd.func50, Tryd.ntmps50
  go_wp2
  go_loop [5, 6] (fun s i => (i = .int .i64 0 ∧ s = .string ({ data := #[] } : ByteArray)) ∨ (i = .int .i64 1 ∧ s = .string T1) ∨ (i = .int .i64 2 ∧ s = .string T2) ∨ (i = .int .i64 3 ∧ s = .string T3) ∨ (i = .int .i64 4 ∧ s = .string T4)) (fun _ i => 4 - (intOf i).toNat)
  case atStart => exact Or.inl ⟨rfl, rfl⟩
  case round =>
    rcases hrel with ⟨rfl, rfl⟩ | ⟨rfl, rfl⟩ | ⟨rfl, rfl⟩ | ⟨rfl, rfl⟩ | ⟨rfl, rfl⟩
    · go_wp2
      go_round
      case rel => exact Or.inr (Or.inl ⟨by go_num, by rw [← A0.out]⟩)
      case measure => simp [intOf]
    · go_wp2
      go_round
      case rel => exact Or.inr (Or.inr (Or.inl ⟨by go_num, by rw [← A1.out]⟩))
      case measure => simp [intOf]
    · go_wp2
      go_round
      case rel => exact Or.inr (Or.inr (Or.inr (Or.inl ⟨by go_num, by rw [← A2.out]⟩)))
      case measure => simp [intOf]
    · go_wp2
      go_round
      case rel => exact Or.inr (Or.inr (Or.inr (Or.inr (⟨by go_num, by rw [← A3.out]⟩))))
      case measure => simp [intOf]
    · go_wp2
      go_ret
      exact ⟨rfl, rfl⟩
end Go.Proofs.YtbghbfgbpdppeaaDoor
