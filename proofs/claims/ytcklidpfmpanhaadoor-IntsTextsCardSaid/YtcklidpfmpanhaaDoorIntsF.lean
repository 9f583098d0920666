/- The law's own look (awake) is true where the table of powers of ten stands. -/
import Derived.Test.YtcklidpfmpanhaaDoorIntsE
import Derived.Test.YtcklidpfmpanhaaDoorLaid
namespace Go.Proofs.YtcklidpfmpanhaaDoor
open Go.ChangeShapes Go.WideShapes Go.ChangeAt Go.RowKit

theorem awake_any (w : World) (hT : Tabs w) :
    Calls Tryd.prog 19 #[] w fun e w' => e = .returned (.bool true) ∧ Below w.heap.size w w' := by
  have C1 : ∀ W, Calls Tryd.prog 23 #[.int .i64 1, .int .i64 62] W fun e w' => e = .returned (.tuple #[.int .i64 4611686018427387904, .int .i64 0]) ∧ W = w' := fun W =>
    (shl_any 1 62 W).mono fun e w' ⟨he, hw⟩ => ⟨he.trans (ret2 (by decide +kernel) (by decide +kernel)), hw⟩
  have C2 : ∀ W, Calls Tryd.prog 23 #[.int .i64 1, .int .i64 63] W fun e w' => e = .returned (.tuple #[.int .i64 0, .int .i64 17]) ∧ W = w' := fun W =>
    (shl_any 1 63 W).mono fun e w' ⟨he, hw⟩ => ⟨he.trans (ret2 (by decide +kernel) (by decide +kernel)), hw⟩
  have C3 : ∀ W, Calls Tryd.prog 23 #[.int .i64 (-1), .int .i64 63] W fun e w' => e = .returned (.tuple #[.int .i64 (-9223372036854775808), .int .i64 0]) ∧ W = w' := fun W =>
    (shl_any (-1) 63 W).mono fun e w' ⟨he, hw⟩ => ⟨he.trans (ret2 (by decide +kernel) (by decide +kernel)), hw⟩
  have C4 : ∀ W, Calls Tryd.prog 15 #[.int .i64 200, .int .i64 1, .bool true] W fun e w' => e = .returned (.tuple #[.int .i64 0, .int .i64 17]) ∧ W = w' := fun W =>
    (fit_any 200 1 true W).mono fun e w' ⟨he, hw⟩ => ⟨he.trans (ret2 (by decide +kernel) (by decide +kernel)), hw⟩
  have C5 : ∀ W, Calls Tryd.prog 14 #[.int .i64 200, .int .i64 1, .bool true] W fun e w' => e = .returned (.int .i64 (-56)) ∧ W = w' := fun W =>
    (wrap_any 200 1 true W).mono fun e w' ⟨he, hw⟩ => ⟨he.trans (ret1 (by decide +kernel)), hw⟩
  have C6 : Calls Tryd.prog 41 #[.int .i64 (-5)] w fun e w' => e = .returned (.string { data := #[45, 53] }) ∧ Below w.heap.size w w' :=
    (text_any (-5) w (by decide +kernel) hT).mono fun e w' ⟨he, hw⟩ => ⟨he.trans (by rw [show Lib.itoa (-5) = [45, 53] by decide +kernel]), hw⟩
  replace C6 := Lib.hid C6
  clear hT
  go_enter Tryd.func19, Tryd.ntmps19
  go_wp2_with (first | (go_at_call 23; (with_reducible refine (C1 _).mono ?_); rintro e w' ⟨rfl, rfl⟩) | (go_at_call 23; (with_reducible refine (C2 _).mono ?_); rintro e w' ⟨rfl, rfl⟩) | (go_at_call 23; (with_reducible refine (C3 _).mono ?_); rintro e w' ⟨rfl, rfl⟩) | (go_at_call 15; (with_reducible refine (C4 _).mono ?_); rintro e w' ⟨rfl, rfl⟩) | (go_at_call 14; (with_reducible refine (C5 _).mono ?_); rintro e w' ⟨rfl, rfl⟩) | (go_at_call 41; (with_reducible refine C6.out.mono ?_); rintro e w' ⟨rfl, hb⟩))
  go_ret
  exact ⟨rfl, hb⟩
end Go.Proofs.YtcklidpfmpanhaaDoor
