/- IntsTurns is true of every input: the walk, where the table of powers of ten stands. -/
import Derived.Test.YtcklidpfmpanhaaDoorIntsF
namespace Go.Proofs.YtcklidpfmpanhaaDoor
open Go.ChangeShapes Go.WideShapes Go.ChangeAt Go.RowKit

theorem walk_IntsTurns (a b x : Int) (w0 : (Lit.int .i64 a).wf = true) (w1 : (Lit.int .i64 b).wf = true) (w2 : (Lit.int .u64 x).wf = true) (w : World) (hT : Tabs w) :
    Calls Tryd.prog 4 #[.int .i64 a, .int .i64 b, .int .u64 x] w fun e w' => e = .returned (.bool true) ∧ Below w.heap.size w w' := by
  have ha := Lib.hid (fits_wf w0)
  have hb := Lib.hid (fits_wf w1)
  clear w0 w1
  have hx := u64_wf w2
  clear w2
  have K := Lib.hid (awake_any w hT)
  clear hT
  have C1 : ∀ W, Calls Tryd.prog 20 #[.int .i64 a] W fun e w' => e = .returned (.int .u64 (a + 9223372036854775808)) ∧ W = w' := fun W => turn_any a W ha.out
  have C2 : ∀ W, Calls Tryd.prog 20 #[.int .i64 b] W fun e w' => e = .returned (.int .u64 (b + 9223372036854775808)) ∧ W = w' := fun W => turn_any b W hb.out
  have C3 : ∀ W, Calls Tryd.prog 21 #[.int .i64 a] W fun e w' => e = .returned (.int .u64 (a + 9223372036854775808)) ∧ W = w' := fun W => rturn_any a W ha.out
  have C4 : ∀ W, Calls Tryd.prog 22 #[.int .u64 (a + 9223372036854775808)] W fun e w' => e = .returned (.int .i64 a) ∧ W = w' := fun W => (back_any _ W (by have := bd ha.out; omega) (by have := bd ha.out; omega)).mono fun e w' ⟨he, hw⟩ => ⟨he.trans (ret1 (by omega)), hw⟩
  have C5 : ∀ W, Calls Tryd.prog 22 #[.int .u64 x] W fun e w' => e = .returned (.int .i64 (x - 9223372036854775808)) ∧ W = w' := fun W => back_any x W hx.1 hx.2
  have C6 : ∀ W, Calls Tryd.prog 20 #[.int .i64 (x - 9223372036854775808)] W fun e w' => e = .returned (.int .u64 x) ∧ W = w' := fun W => (turn_any _ W (by apply fits_mk <;> omega)).mono fun e w' ⟨he, hw⟩ => ⟨he.trans (ret1 (by omega)), hw⟩
  have g1 : (decide (a + 9223372036854775808 < b + 9223372036854775808) == decide (a < b)) = true := by
    rw [beq_iff_eq, decide_eq_decide]; omega
  clear hx
  go_enter Tryd.func4, Tryd.ntmps4
  go_wp2_with (first | (go_at_call 20; (with_reducible refine (C1 _).mono ?_); rintro e w' ⟨rfl, rfl⟩) | (go_at_call 20; (with_reducible refine (C2 _).mono ?_); rintro e w' ⟨rfl, rfl⟩) | (go_at_call 20; (with_reducible refine (C6 _).mono ?_); rintro e w' ⟨rfl, rfl⟩) | (go_at_call 21; (with_reducible refine (C3 _).mono ?_); rintro e w' ⟨rfl, rfl⟩) | (go_at_call 22; (with_reducible refine (C4 _).mono ?_); rintro e w' ⟨rfl, rfl⟩) | (go_at_call 22; (with_reducible refine (C5 _).mono ?_); rintro e w' ⟨rfl, rfl⟩) | (go_at_call 19; (with_reducible refine K.out.mono ?_); rintro e w' ⟨rfl, hb⟩))
  go_ret
  exact ⟨rfl, hb⟩
end Go.Proofs.YtcklidpfmpanhaaDoor
