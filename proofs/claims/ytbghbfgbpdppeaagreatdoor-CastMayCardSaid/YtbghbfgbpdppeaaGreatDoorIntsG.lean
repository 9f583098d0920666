
/- The document's text of a number is its decimal numeral: for every number of 64 bits. -/
import Derived.Test.YtbghbfgbpdppeaaGreatDoorIntsE
import Derived.Lib.ItoaMem
import Derived.Lib.ItoaLen
namespace Go.Proofs.YtbghbfgbpdppeaaGreatDoor
open Go.ChangeShapes Go.WideShapes Go.ChangeAt Go.RowKit

theorem dig0 (W : World) : (Instr.slice 9 (.string ⟨#[48, 49, 50, 51, 52, 53, 54, 55, 56, 57]⟩) (some (.int .i64 0)) (some (.int .i64 1)) none).run Tryz.prog W = .ok (.string ⟨#[48]⟩) W := by kernel_rfl
theorem dig1 (W : World) : (Instr.slice 9 (.string ⟨#[48, 49, 50, 51, 52, 53, 54, 55, 56, 57]⟩) (some (.int .i64 1)) (some (.int .i64 2)) none).run Tryz.prog W = .ok (.string ⟨#[49]⟩) W := by kernel_rfl
theorem dig2 (W : World) : (Instr.slice 9 (.string ⟨#[48, 49, 50, 51, 52, 53, 54, 55, 56, 57]⟩) (some (.int .i64 2)) (some (.int .i64 3)) none).run Tryz.prog W = .ok (.string ⟨#[50]⟩) W := by kernel_rfl
theorem dig3 (W : World) : (Instr.slice 9 (.string ⟨#[48, 49, 50, 51, 52, 53, 54, 55, 56, 57]⟩) (some (.int .i64 3)) (some (.int .i64 4)) none).run Tryz.prog W = .ok (.string ⟨#[51]⟩) W := by kernel_rfl
theorem dig4 (W : World) : (Instr.slice 9 (.string ⟨#[48, 49, 50, 51, 52, 53, 54, 55, 56, 57]⟩) (some (.int .i64 4)) (some (.int .i64 5)) none).run Tryz.prog W = .ok (.string ⟨#[52]⟩) W := by kernel_rfl
theorem dig5 (W : World) : (Instr.slice 9 (.string ⟨#[48, 49, 50, 51, 52, 53, 54, 55, 56, 57]⟩) (some (.int .i64 5)) (some (.int .i64 6)) none).run Tryz.prog W = .ok (.string ⟨#[53]⟩) W := by kernel_rfl
theorem dig6 (W : World) : (Instr.slice 9 (.string ⟨#[48, 49, 50, 51, 52, 53, 54, 55, 56, 57]⟩) (some (.int .i64 6)) (some (.int .i64 7)) none).run Tryz.prog W = .ok (.string ⟨#[54]⟩) W := by kernel_rfl
theorem dig7 (W : World) : (Instr.slice 9 (.string ⟨#[48, 49, 50, 51, 52, 53, 54, 55, 56, 57]⟩) (some (.int .i64 7)) (some (.int .i64 8)) none).run Tryz.prog W = .ok (.string ⟨#[55]⟩) W := by kernel_rfl
theorem dig8 (W : World) : (Instr.slice 9 (.string ⟨#[48, 49, 50, 51, 52, 53, 54, 55, 56, 57]⟩) (some (.int .i64 8)) (some (.int .i64 9)) none).run Tryz.prog W = .ok (.string ⟨#[56]⟩) W := by kernel_rfl
theorem dig9 (W : World) : (Instr.slice 9 (.string ⟨#[48, 49, 50, 51, 52, 53, 54, 55, 56, 57]⟩) (some (.int .i64 9)) (some (.int .i64 10)) none).run Tryz.prog W = .ok (.string ⟨#[57]⟩) W := by kernel_rfl
theorem dig (k : Nat) (hk : k ≤ 9) (W : World) : (Instr.slice 9 (.string ⟨#[48, 49, 50, 51, 52, 53, 54, 55, 56, 57]⟩) (some (.int .i64 (k : Int))) (some (.int .i64 ((k : Int) + 1))) none).run Tryz.prog W = .ok (.string ⟨#[UInt8.ofNat (48 + k)]⟩) W := by
  have h : k = 0 ∨ k = 1 ∨ k = 2 ∨ k = 3 ∨ k = 4 ∨ k = 5 ∨ k = 6 ∨ k = 7 ∨ k = 8 ∨ k = 9 := by omega
  rcases h with rfl | rfl | rfl | rfl | rfl | rfl | rfl | rfl | rfl | rfl
  · exact dig0 W
  · exact dig1 W
  · exact dig2 W
  · exact dig3 W
  · exact dig4 W
  · exact dig5 W
  · exact dig6 W
  · exact dig7 W
  · exact dig8 W
  · exact dig9 W
theorem catB (c : UInt8) (suf : List UInt8) : (ByteArray.mk #[c]) ++ (ByteArray.mk suf.toArray) = ByteArray.mk (c :: suf).toArray := by
  rw [show (#[c] : Array UInt8) = [c].toArray from rfl, ByteArray.mk_append_mk]
  simp
theorem dec_len {x : Nat} (hx : x ≤ 9223372036854775807) : (Lib.decDigits x).length ≤ 21 := by
  rw [← Lib.itoa_nonneg]
  exact Lib.itoa_length_le _ (by omega) (by omega)
theorem bsz (c : UInt8) : (ByteArray.mk #[c]).size = 1 := rfl
theorem bszl (l : List UInt8) : (ByteArray.mk l.toArray).size = l.length := by show l.toArray.size = _; simp
theorem dec_step {u : Nat} (h : ¬ u < 10) : Lib.decDigits u = Lib.decDigits (u / 10) ++ [UInt8.ofNat (48 + u % 10)] := by
  conv => lhs; rw [Lib.decDigits, dif_neg h]
theorem dec_one {u : Nat} (h : u < 10) : Lib.decDigits u = [UInt8.ofNat (48 + u)] := Lib.decDigits_one h

set_option maxRecDepth 100000 in
theorem rtext_pos (x : Nat) (w : World) (hx : x ≤ 9223372036854775807) :
    Calls Tryz.prog 7 #[.int .i64 x] w fun e w' => e = .returned (.string ⟨(Lib.decDigits x).toArray⟩) ∧ w = w' := by
  go_enter Tryz.func7, Tryz.ntmps7
  go_wp2_with fail
  have hm := dec_len hx
  go_loop [0, 3] (fun v s => ∃ (y : Nat) (suf : List UInt8), y ≤ x ∧ v = .int .i64 y ∧ s = .string ⟨suf.toArray⟩ ∧ Hid (Lib.decDigits y ++ suf = Lib.decDigits x)) (fun v _ => (intOf v).toNat)
  case atStart => exact ⟨x, [], Nat.le_refl _, rfl, rfl, Lib.hid (by simp)⟩
  case round =>
    obtain ⟨y, suf, hy, rfl, rfl, hd⟩ := hrel
    have hl : suf.length ≤ 21 := by
      have := congrArg List.length hd.out
      rw [List.length_append] at this
      omega
    by_cases h : y ≤ 9
    · have D := fun W => dig y h W
      rw [dec_one (by omega)] at hd
      have E : ∀ W, (Op.stringOp .add ⟨#[UInt8.ofNat (48 + y)]⟩ ⟨suf.toArray⟩).run Tryz.prog W = .ok (.string ⟨(UInt8.ofNat (48 + y) :: suf).toArray⟩) W := fun W => by
        rw [run_string_add_sum W _ _ (by rw [bsz, bszl]; omega), catB]
      generalize UInt8.ofNat (48 + y) = ch at *
      go_wp2
      go_ret
      have := hd.out
      exact ⟨by rw [← this]; rfl, rfl⟩
    · have D := fun W => dig (y % 10) (by omega) W
      have E : ∀ W, (Op.stringOp .add ⟨#[UInt8.ofNat (48 + y % 10)]⟩ ⟨suf.toArray⟩).run Tryz.prog W = .ok (.string ⟨(UInt8.ofNat (48 + y % 10) :: suf).toArray⟩) W := fun W => by
        rw [run_string_add_sum W _ _ (by rw [bsz, bszl]; omega), catB]
      simp only [Int.natCast_emod, Int.cast_ofNat_Int] at D
      rw [dec_step (by omega), List.append_assoc] at hd
      generalize UInt8.ofNat (48 + y % 10) = ch at *
      go_wp2
      go_round
      case rel => exact ⟨y / 10, ch :: suf, by omega, by go_num, rfl, hd⟩
      case measure => simp [intOf]; omega
end Go.Proofs.YtbghbfgbpdppeaaGreatDoor
