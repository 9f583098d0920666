
/- The document's text of every number of 64 bits; its reading of a text as a number. -/
import Derived.Test.YtbghbfgbpdppeaaGreatDoorIntsG
import Derived.Test.YtbghbfgbpdppeaaGreatDoorNumM
namespace Go.Proofs.YtbghbfgbpdppeaaGreatDoor
open Go.ChangeShapes Go.WideShapes Go.ChangeAt Go.RowKit
set_option linter.unusedVariables false

set_option maxRecDepth 100000 in
theorem rtext_any (x : Int) (w : World) (hx : fits x = true) :
    Calls Tryz.prog 7 #[.int .i64 x] w fun e w' => e = .returned (.string ⟨(Lib.itoa x).toArray⟩) ∧ w = w' := by
  have hb := bd hx
  by_cases h : 0 ≤ x
  · obtain ⟨n, rfl⟩ := Int.eq_ofNat_of_zero_le h
    have := rtext_pos n w (by omega)
    rw [Lib.itoa_nonneg]
    exact this
  · by_cases hm : x = -9223372036854775808
    · subst hm
      have e0 : (⟨(Lib.itoa (-9223372036854775808)).toArray⟩ : ByteArray) = ⟨#[45, 57, 50, 50, 51, 51, 55, 50, 48, 51, 54, 56, 53, 52, 55, 55, 53, 56, 48, 56]⟩ := by
        have : Lib.itoa (-9223372036854775808) = [45, 57, 50, 50, 51, 51, 55, 50, 48, 51, 54, 56, 53, 52, 55, 55, 53, 56, 48, 56] := by decide +kernel
        rw [this]
      rw [e0]
      clear e0 hx hb h
      go_enter Tryz.func7, Tryz.ntmps7
      go_wp2
      go_ret
      exact ⟨rfl, rfl⟩
    · obtain ⟨n, hn⟩ : ∃ n : Nat, -x = (n : Int) := ⟨(-x).toNat, by omega⟩
      have h1 : 1 ≤ n := by omega
      have C := fun W => rtext_pos n W (by omega)
      rw [← hn] at C
      have hd := dec_len (x := n) (by omega)
      have E : ∀ W, (Op.stringOp .add ⟨#[45]⟩ ⟨(Lib.decDigits n).toArray⟩).run Tryz.prog W = .ok (.string ⟨(45 :: Lib.decDigits n).toArray⟩) W := fun W => by
        rw [run_string_add_sum W _ _ (by rw [bsz, bszl]; omega), catB]
      have e1 : Lib.itoa x = 45 :: Lib.decDigits n := by
        rw [show x = -(n : Int) by omega, Lib.itoa_neg n h1]
      rw [e1]
      generalize Lib.decDigits n = D at *
      have g0 : (x == -9223372036854775808) = false := by simpa using hm
      have g1 : x < 0 := by omega
      have g2 : -9223372036854775807 ≤ x := by omega
      replace C := Lib.hid C
      clear hx hn e1 hm h1 hb h
      go_enter Tryz.func7, Tryz.ntmps7
      go_wp2_with (go_at_call 7; (with_reducible refine (C.out _).mono ?_); rintro e w' ⟨rfl, rfl⟩)
      go_ret
      exact ⟨rfl, rfl⟩
end Go.Proofs.YtbghbfgbpdppeaaGreatDoor
