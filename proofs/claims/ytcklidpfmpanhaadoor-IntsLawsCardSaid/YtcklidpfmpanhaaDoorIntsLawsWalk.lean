/- IntsLaws is true of every input: the walk, where the table of powers of ten stands. -/
import Derived.Test.YtcklidpfmpanhaaDoorIntsF
namespace Go.Proofs.YtcklidpfmpanhaaDoor
open Go.ChangeShapes Go.WideShapes Go.ChangeAt Go.RowKit

set_option maxHeartbeats 2000000 in
theorem laws_z (a b c S P E : Int) (w : World) (K : Hid (Calls Tryd.prog 19 #[] w fun e w' => e = .returned (.bool true) ∧ Below w.heap.size w w'))
    (hA : ((∀ W, Calls Tryd.prog 29 #[.int .i64 a, .int .i64 b] W fun e w' => e = .returned (.tuple #[.int .i64 S, .int .i64 0]) ∧ W = w') ∧ (∀ W, Calls Tryd.prog 31 #[.int .i64 S, .int .i64 b] W fun e w' => e = .returned (.tuple #[.int .i64 a, .int .i64 0]) ∧ W = w') ∧ (∀ W, Calls Tryd.prog 29 #[.int .i64 b, .int .i64 a] W fun e w' => e = .returned (.tuple #[.int .i64 S, .int .i64 0]) ∧ W = w')) ∨ (∀ W, Calls Tryd.prog 29 #[.int .i64 a, .int .i64 b] W fun e w' => e = .returned (.tuple #[.int .i64 0, .int .i64 17]) ∧ W = w'))
    (M1 : ∀ W, Calls Tryd.prog 39 #[.int .i64 a, .int .i64 b] W fun e w' => e = .returned (.tuple #[.int .i64 P, .int .i64 E]) ∧ W = w') (M2 : ∀ W, Calls Tryd.prog 39 #[.int .i64 b, .int .i64 a] W fun e w' => e = .returned (.tuple #[.int .i64 P, .int .i64 E]) ∧ W = w')
    (hM : (E == 0) = false ∨ (E = 0 ∧ (b != 0) = false) ∨ (E = 0 ∧ (b != 0) = true ∧ (∀ W, Calls Tryd.prog 37 #[.int .i64 P, .int .i64 b] W fun e w' => e = .returned (.tuple #[.int .i64 a, .int .i64 0]) ∧ W = w')))
    (R1 : ∀ W, Calls Tryd.prog 38 #[.int .i64 a, .int .i64 c] W fun e w' => e = .returned (.tuple #[.int .i64 0, .int .i64 18]) ∧ W = w') (c0 : (c == 0) = true)  :
    Calls Tryd.prog 12 #[.int .i64 a, .int .i64 b, .int .i64 c] w fun e w' => e = .returned (.bool true) ∧ Below w.heap.size w w' := by
  rcases hA with ⟨A1, A2, A3⟩ | A4
  · rcases hM with hM | ⟨rfl, hM⟩ | ⟨rfl, hM, D1⟩
    · go_enter Tryd.func12, Tryd.ntmps12
      go_wp2_with (first | (go_at_call 29; (with_reducible refine (A1 _).mono ?_); rintro e w' ⟨rfl, rfl⟩) | (go_at_call 31; (with_reducible refine (A2 _).mono ?_); rintro e w' ⟨rfl, rfl⟩) | (go_at_call 29; (with_reducible refine (A3 _).mono ?_); rintro e w' ⟨rfl, rfl⟩) | (go_at_call 39; (with_reducible refine (M1 _).mono ?_); rintro e w' ⟨rfl, rfl⟩) | (go_at_call 39; (with_reducible refine (M2 _).mono ?_); rintro e w' ⟨rfl, rfl⟩) | (go_at_call 38; (with_reducible refine (R1 _).mono ?_); rintro e w' ⟨rfl, rfl⟩) | (go_at_call 19; (with_reducible refine K.out.mono ?_); rintro e w' ⟨rfl, hb⟩))
      go_ret
      exact ⟨rfl, hb⟩
    · go_enter Tryd.func12, Tryd.ntmps12
      go_wp2_with (first | (go_at_call 29; (with_reducible refine (A1 _).mono ?_); rintro e w' ⟨rfl, rfl⟩) | (go_at_call 31; (with_reducible refine (A2 _).mono ?_); rintro e w' ⟨rfl, rfl⟩) | (go_at_call 29; (with_reducible refine (A3 _).mono ?_); rintro e w' ⟨rfl, rfl⟩) | (go_at_call 39; (with_reducible refine (M1 _).mono ?_); rintro e w' ⟨rfl, rfl⟩) | (go_at_call 39; (with_reducible refine (M2 _).mono ?_); rintro e w' ⟨rfl, rfl⟩) | (go_at_call 38; (with_reducible refine (R1 _).mono ?_); rintro e w' ⟨rfl, rfl⟩) | (go_at_call 19; (with_reducible refine K.out.mono ?_); rintro e w' ⟨rfl, hb⟩))
      go_ret
      exact ⟨rfl, hb⟩
    · go_enter Tryd.func12, Tryd.ntmps12
      go_wp2_with (first | (go_at_call 29; (with_reducible refine (A1 _).mono ?_); rintro e w' ⟨rfl, rfl⟩) | (go_at_call 31; (with_reducible refine (A2 _).mono ?_); rintro e w' ⟨rfl, rfl⟩) | (go_at_call 29; (with_reducible refine (A3 _).mono ?_); rintro e w' ⟨rfl, rfl⟩) | (go_at_call 39; (with_reducible refine (M1 _).mono ?_); rintro e w' ⟨rfl, rfl⟩) | (go_at_call 39; (with_reducible refine (M2 _).mono ?_); rintro e w' ⟨rfl, rfl⟩) | (go_at_call 38; (with_reducible refine (R1 _).mono ?_); rintro e w' ⟨rfl, rfl⟩) | (go_at_call 19; (with_reducible refine K.out.mono ?_); rintro e w' ⟨rfl, hb⟩) | (go_at_call 37; (with_reducible refine (D1 _).mono ?_); rintro e w' ⟨rfl, rfl⟩))
      go_ret
      exact ⟨rfl, hb⟩
  · rcases hM with hM | ⟨rfl, hM⟩ | ⟨rfl, hM, D1⟩
    · go_enter Tryd.func12, Tryd.ntmps12
      go_wp2_with (first | (go_at_call 29; (with_reducible refine (A4 _).mono ?_); rintro e w' ⟨rfl, rfl⟩) | (go_at_call 39; (with_reducible refine (M1 _).mono ?_); rintro e w' ⟨rfl, rfl⟩) | (go_at_call 39; (with_reducible refine (M2 _).mono ?_); rintro e w' ⟨rfl, rfl⟩) | (go_at_call 38; (with_reducible refine (R1 _).mono ?_); rintro e w' ⟨rfl, rfl⟩) | (go_at_call 19; (with_reducible refine K.out.mono ?_); rintro e w' ⟨rfl, hb⟩))
      go_ret
      exact ⟨rfl, hb⟩
    · go_enter Tryd.func12, Tryd.ntmps12
      go_wp2_with (first | (go_at_call 29; (with_reducible refine (A4 _).mono ?_); rintro e w' ⟨rfl, rfl⟩) | (go_at_call 39; (with_reducible refine (M1 _).mono ?_); rintro e w' ⟨rfl, rfl⟩) | (go_at_call 39; (with_reducible refine (M2 _).mono ?_); rintro e w' ⟨rfl, rfl⟩) | (go_at_call 38; (with_reducible refine (R1 _).mono ?_); rintro e w' ⟨rfl, rfl⟩) | (go_at_call 19; (with_reducible refine K.out.mono ?_); rintro e w' ⟨rfl, hb⟩))
      go_ret
      exact ⟨rfl, hb⟩
    · go_enter Tryd.func12, Tryd.ntmps12
      go_wp2_with (first | (go_at_call 29; (with_reducible refine (A4 _).mono ?_); rintro e w' ⟨rfl, rfl⟩) | (go_at_call 39; (with_reducible refine (M1 _).mono ?_); rintro e w' ⟨rfl, rfl⟩) | (go_at_call 39; (with_reducible refine (M2 _).mono ?_); rintro e w' ⟨rfl, rfl⟩) | (go_at_call 38; (with_reducible refine (R1 _).mono ?_); rintro e w' ⟨rfl, rfl⟩) | (go_at_call 19; (with_reducible refine K.out.mono ?_); rintro e w' ⟨rfl, hb⟩) | (go_at_call 37; (with_reducible refine (D1 _).mono ?_); rintro e w' ⟨rfl, rfl⟩))
      go_ret
      exact ⟨rfl, hb⟩

set_option maxHeartbeats 2000000 in
theorem laws_nn (a b c S P E m : Int) (w : World) (K : Hid (Calls Tryd.prog 19 #[] w fun e w' => e = .returned (.bool true) ∧ Below w.heap.size w w'))
    (hA : ((∀ W, Calls Tryd.prog 29 #[.int .i64 a, .int .i64 b] W fun e w' => e = .returned (.tuple #[.int .i64 S, .int .i64 0]) ∧ W = w') ∧ (∀ W, Calls Tryd.prog 31 #[.int .i64 S, .int .i64 b] W fun e w' => e = .returned (.tuple #[.int .i64 a, .int .i64 0]) ∧ W = w') ∧ (∀ W, Calls Tryd.prog 29 #[.int .i64 b, .int .i64 a] W fun e w' => e = .returned (.tuple #[.int .i64 S, .int .i64 0]) ∧ W = w')) ∨ (∀ W, Calls Tryd.prog 29 #[.int .i64 a, .int .i64 b] W fun e w' => e = .returned (.tuple #[.int .i64 0, .int .i64 17]) ∧ W = w'))
    (M1 : ∀ W, Calls Tryd.prog 39 #[.int .i64 a, .int .i64 b] W fun e w' => e = .returned (.tuple #[.int .i64 P, .int .i64 E]) ∧ W = w') (M2 : ∀ W, Calls Tryd.prog 39 #[.int .i64 b, .int .i64 a] W fun e w' => e = .returned (.tuple #[.int .i64 P, .int .i64 E]) ∧ W = w')
    (hM : (E == 0) = false ∨ (E = 0 ∧ (b != 0) = false) ∨ (E = 0 ∧ (b != 0) = true ∧ (∀ W, Calls Tryd.prog 37 #[.int .i64 P, .int .i64 b] W fun e w' => e = .returned (.tuple #[.int .i64 a, .int .i64 0]) ∧ W = w')))
    (R1 : ∀ W, Calls Tryd.prog 38 #[.int .i64 a, .int .i64 c] W fun e w' => e = .returned (.tuple #[.int .i64 m, .int .i64 0]) ∧ W = w') (c0 : (c == 0) = false) (h1 : a < 0) (h2 : m ≤ 0) (h3 : c < 0) (h4 : c < m) :
    Calls Tryd.prog 12 #[.int .i64 a, .int .i64 b, .int .i64 c] w fun e w' => e = .returned (.bool true) ∧ Below w.heap.size w w' := by
  rcases hA with ⟨A1, A2, A3⟩ | A4
  · rcases hM with hM | ⟨rfl, hM⟩ | ⟨rfl, hM, D1⟩
    · go_enter Tryd.func12, Tryd.ntmps12
      go_wp2_with (first | (go_at_call 29; (with_reducible refine (A1 _).mono ?_); rintro e w' ⟨rfl, rfl⟩) | (go_at_call 31; (with_reducible refine (A2 _).mono ?_); rintro e w' ⟨rfl, rfl⟩) | (go_at_call 29; (with_reducible refine (A3 _).mono ?_); rintro e w' ⟨rfl, rfl⟩) | (go_at_call 39; (with_reducible refine (M1 _).mono ?_); rintro e w' ⟨rfl, rfl⟩) | (go_at_call 39; (with_reducible refine (M2 _).mono ?_); rintro e w' ⟨rfl, rfl⟩) | (go_at_call 38; (with_reducible refine (R1 _).mono ?_); rintro e w' ⟨rfl, rfl⟩) | (go_at_call 19; (with_reducible refine K.out.mono ?_); rintro e w' ⟨rfl, hb⟩))
      go_ret
      exact ⟨rfl, hb⟩
    · go_enter Tryd.func12, Tryd.ntmps12
      go_wp2_with (first | (go_at_call 29; (with_reducible refine (A1 _).mono ?_); rintro e w' ⟨rfl, rfl⟩) | (go_at_call 31; (with_reducible refine (A2 _).mono ?_); rintro e w' ⟨rfl, rfl⟩) | (go_at_call 29; (with_reducible refine (A3 _).mono ?_); rintro e w' ⟨rfl, rfl⟩) | (go_at_call 39; (with_reducible refine (M1 _).mono ?_); rintro e w' ⟨rfl, rfl⟩) | (go_at_call 39; (with_reducible refine (M2 _).mono ?_); rintro e w' ⟨rfl, rfl⟩) | (go_at_call 38; (with_reducible refine (R1 _).mono ?_); rintro e w' ⟨rfl, rfl⟩) | (go_at_call 19; (with_reducible refine K.out.mono ?_); rintro e w' ⟨rfl, hb⟩))
      go_ret
      exact ⟨rfl, hb⟩
    · go_enter Tryd.func12, Tryd.ntmps12
      go_wp2_with (first | (go_at_call 29; (with_reducible refine (A1 _).mono ?_); rintro e w' ⟨rfl, rfl⟩) | (go_at_call 31; (with_reducible refine (A2 _).mono ?_); rintro e w' ⟨rfl, rfl⟩) | (go_at_call 29; (with_reducible refine (A3 _).mono ?_); rintro e w' ⟨rfl, rfl⟩) | (go_at_call 39; (with_reducible refine (M1 _).mono ?_); rintro e w' ⟨rfl, rfl⟩) | (go_at_call 39; (with_reducible refine (M2 _).mono ?_); rintro e w' ⟨rfl, rfl⟩) | (go_at_call 38; (with_reducible refine (R1 _).mono ?_); rintro e w' ⟨rfl, rfl⟩) | (go_at_call 19; (with_reducible refine K.out.mono ?_); rintro e w' ⟨rfl, hb⟩) | (go_at_call 37; (with_reducible refine (D1 _).mono ?_); rintro e w' ⟨rfl, rfl⟩))
      go_ret
      exact ⟨rfl, hb⟩
  · rcases hM with hM | ⟨rfl, hM⟩ | ⟨rfl, hM, D1⟩
    · go_enter Tryd.func12, Tryd.ntmps12
      go_wp2_with (first | (go_at_call 29; (with_reducible refine (A4 _).mono ?_); rintro e w' ⟨rfl, rfl⟩) | (go_at_call 39; (with_reducible refine (M1 _).mono ?_); rintro e w' ⟨rfl, rfl⟩) | (go_at_call 39; (with_reducible refine (M2 _).mono ?_); rintro e w' ⟨rfl, rfl⟩) | (go_at_call 38; (with_reducible refine (R1 _).mono ?_); rintro e w' ⟨rfl, rfl⟩) | (go_at_call 19; (with_reducible refine K.out.mono ?_); rintro e w' ⟨rfl, hb⟩))
      go_ret
      exact ⟨rfl, hb⟩
    · go_enter Tryd.func12, Tryd.ntmps12
      go_wp2_with (first | (go_at_call 29; (with_reducible refine (A4 _).mono ?_); rintro e w' ⟨rfl, rfl⟩) | (go_at_call 39; (with_reducible refine (M1 _).mono ?_); rintro e w' ⟨rfl, rfl⟩) | (go_at_call 39; (with_reducible refine (M2 _).mono ?_); rintro e w' ⟨rfl, rfl⟩) | (go_at_call 38; (with_reducible refine (R1 _).mono ?_); rintro e w' ⟨rfl, rfl⟩) | (go_at_call 19; (with_reducible refine K.out.mono ?_); rintro e w' ⟨rfl, hb⟩))
      go_ret
      exact ⟨rfl, hb⟩
    · go_enter Tryd.func12, Tryd.ntmps12
      go_wp2_with (first | (go_at_call 29; (with_reducible refine (A4 _).mono ?_); rintro e w' ⟨rfl, rfl⟩) | (go_at_call 39; (with_reducible refine (M1 _).mono ?_); rintro e w' ⟨rfl, rfl⟩) | (go_at_call 39; (with_reducible refine (M2 _).mono ?_); rintro e w' ⟨rfl, rfl⟩) | (go_at_call 38; (with_reducible refine (R1 _).mono ?_); rintro e w' ⟨rfl, rfl⟩) | (go_at_call 19; (with_reducible refine K.out.mono ?_); rintro e w' ⟨rfl, hb⟩) | (go_at_call 37; (with_reducible refine (D1 _).mono ?_); rintro e w' ⟨rfl, rfl⟩))
      go_ret
      exact ⟨rfl, hb⟩

set_option maxHeartbeats 2000000 in
theorem laws_np (a b c S P E m : Int) (w : World) (K : Hid (Calls Tryd.prog 19 #[] w fun e w' => e = .returned (.bool true) ∧ Below w.heap.size w w'))
    (hA : ((∀ W, Calls Tryd.prog 29 #[.int .i64 a, .int .i64 b] W fun e w' => e = .returned (.tuple #[.int .i64 S, .int .i64 0]) ∧ W = w') ∧ (∀ W, Calls Tryd.prog 31 #[.int .i64 S, .int .i64 b] W fun e w' => e = .returned (.tuple #[.int .i64 a, .int .i64 0]) ∧ W = w') ∧ (∀ W, Calls Tryd.prog 29 #[.int .i64 b, .int .i64 a] W fun e w' => e = .returned (.tuple #[.int .i64 S, .int .i64 0]) ∧ W = w')) ∨ (∀ W, Calls Tryd.prog 29 #[.int .i64 a, .int .i64 b] W fun e w' => e = .returned (.tuple #[.int .i64 0, .int .i64 17]) ∧ W = w'))
    (M1 : ∀ W, Calls Tryd.prog 39 #[.int .i64 a, .int .i64 b] W fun e w' => e = .returned (.tuple #[.int .i64 P, .int .i64 E]) ∧ W = w') (M2 : ∀ W, Calls Tryd.prog 39 #[.int .i64 b, .int .i64 a] W fun e w' => e = .returned (.tuple #[.int .i64 P, .int .i64 E]) ∧ W = w')
    (hM : (E == 0) = false ∨ (E = 0 ∧ (b != 0) = false) ∨ (E = 0 ∧ (b != 0) = true ∧ (∀ W, Calls Tryd.prog 37 #[.int .i64 P, .int .i64 b] W fun e w' => e = .returned (.tuple #[.int .i64 a, .int .i64 0]) ∧ W = w')))
    (R1 : ∀ W, Calls Tryd.prog 38 #[.int .i64 a, .int .i64 c] W fun e w' => e = .returned (.tuple #[.int .i64 m, .int .i64 0]) ∧ W = w') (c0 : (c == 0) = false) (h1 : a < 0) (h2 : m ≤ 0) (h3 : 0 < c) (h4 : -c < m) (hbd : c ≤ 9223372036854775807) :
    Calls Tryd.prog 12 #[.int .i64 a, .int .i64 b, .int .i64 c] w fun e w' => e = .returned (.bool true) ∧ Below w.heap.size w w' := by
  rcases hA with ⟨A1, A2, A3⟩ | A4
  · rcases hM with hM | ⟨rfl, hM⟩ | ⟨rfl, hM, D1⟩
    · go_enter Tryd.func12, Tryd.ntmps12
      go_wp2_with (first | (go_at_call 29; (with_reducible refine (A1 _).mono ?_); rintro e w' ⟨rfl, rfl⟩) | (go_at_call 31; (with_reducible refine (A2 _).mono ?_); rintro e w' ⟨rfl, rfl⟩) | (go_at_call 29; (with_reducible refine (A3 _).mono ?_); rintro e w' ⟨rfl, rfl⟩) | (go_at_call 39; (with_reducible refine (M1 _).mono ?_); rintro e w' ⟨rfl, rfl⟩) | (go_at_call 39; (with_reducible refine (M2 _).mono ?_); rintro e w' ⟨rfl, rfl⟩) | (go_at_call 38; (with_reducible refine (R1 _).mono ?_); rintro e w' ⟨rfl, rfl⟩) | (go_at_call 19; (with_reducible refine K.out.mono ?_); rintro e w' ⟨rfl, hb⟩))
      go_ret
      exact ⟨rfl, hb⟩
    · go_enter Tryd.func12, Tryd.ntmps12
      go_wp2_with (first | (go_at_call 29; (with_reducible refine (A1 _).mono ?_); rintro e w' ⟨rfl, rfl⟩) | (go_at_call 31; (with_reducible refine (A2 _).mono ?_); rintro e w' ⟨rfl, rfl⟩) | (go_at_call 29; (with_reducible refine (A3 _).mono ?_); rintro e w' ⟨rfl, rfl⟩) | (go_at_call 39; (with_reducible refine (M1 _).mono ?_); rintro e w' ⟨rfl, rfl⟩) | (go_at_call 39; (with_reducible refine (M2 _).mono ?_); rintro e w' ⟨rfl, rfl⟩) | (go_at_call 38; (with_reducible refine (R1 _).mono ?_); rintro e w' ⟨rfl, rfl⟩) | (go_at_call 19; (with_reducible refine K.out.mono ?_); rintro e w' ⟨rfl, hb⟩))
      go_ret
      exact ⟨rfl, hb⟩
    · go_enter Tryd.func12, Tryd.ntmps12
      go_wp2_with (first | (go_at_call 29; (with_reducible refine (A1 _).mono ?_); rintro e w' ⟨rfl, rfl⟩) | (go_at_call 31; (with_reducible refine (A2 _).mono ?_); rintro e w' ⟨rfl, rfl⟩) | (go_at_call 29; (with_reducible refine (A3 _).mono ?_); rintro e w' ⟨rfl, rfl⟩) | (go_at_call 39; (with_reducible refine (M1 _).mono ?_); rintro e w' ⟨rfl, rfl⟩) | (go_at_call 39; (with_reducible refine (M2 _).mono ?_); rintro e w' ⟨rfl, rfl⟩) | (go_at_call 38; (with_reducible refine (R1 _).mono ?_); rintro e w' ⟨rfl, rfl⟩) | (go_at_call 19; (with_reducible refine K.out.mono ?_); rintro e w' ⟨rfl, hb⟩) | (go_at_call 37; (with_reducible refine (D1 _).mono ?_); rintro e w' ⟨rfl, rfl⟩))
      go_ret
      exact ⟨rfl, hb⟩
  · rcases hM with hM | ⟨rfl, hM⟩ | ⟨rfl, hM, D1⟩
    · go_enter Tryd.func12, Tryd.ntmps12
      go_wp2_with (first | (go_at_call 29; (with_reducible refine (A4 _).mono ?_); rintro e w' ⟨rfl, rfl⟩) | (go_at_call 39; (with_reducible refine (M1 _).mono ?_); rintro e w' ⟨rfl, rfl⟩) | (go_at_call 39; (with_reducible refine (M2 _).mono ?_); rintro e w' ⟨rfl, rfl⟩) | (go_at_call 38; (with_reducible refine (R1 _).mono ?_); rintro e w' ⟨rfl, rfl⟩) | (go_at_call 19; (with_reducible refine K.out.mono ?_); rintro e w' ⟨rfl, hb⟩))
      go_ret
      exact ⟨rfl, hb⟩
    · go_enter Tryd.func12, Tryd.ntmps12
      go_wp2_with (first | (go_at_call 29; (with_reducible refine (A4 _).mono ?_); rintro e w' ⟨rfl, rfl⟩) | (go_at_call 39; (with_reducible refine (M1 _).mono ?_); rintro e w' ⟨rfl, rfl⟩) | (go_at_call 39; (with_reducible refine (M2 _).mono ?_); rintro e w' ⟨rfl, rfl⟩) | (go_at_call 38; (with_reducible refine (R1 _).mono ?_); rintro e w' ⟨rfl, rfl⟩) | (go_at_call 19; (with_reducible refine K.out.mono ?_); rintro e w' ⟨rfl, hb⟩))
      go_ret
      exact ⟨rfl, hb⟩
    · go_enter Tryd.func12, Tryd.ntmps12
      go_wp2_with (first | (go_at_call 29; (with_reducible refine (A4 _).mono ?_); rintro e w' ⟨rfl, rfl⟩) | (go_at_call 39; (with_reducible refine (M1 _).mono ?_); rintro e w' ⟨rfl, rfl⟩) | (go_at_call 39; (with_reducible refine (M2 _).mono ?_); rintro e w' ⟨rfl, rfl⟩) | (go_at_call 38; (with_reducible refine (R1 _).mono ?_); rintro e w' ⟨rfl, rfl⟩) | (go_at_call 19; (with_reducible refine K.out.mono ?_); rintro e w' ⟨rfl, hb⟩) | (go_at_call 37; (with_reducible refine (D1 _).mono ?_); rintro e w' ⟨rfl, rfl⟩))
      go_ret
      exact ⟨rfl, hb⟩

set_option maxHeartbeats 2000000 in
theorem laws_p0n (a b c S P E : Int) (w : World) (K : Hid (Calls Tryd.prog 19 #[] w fun e w' => e = .returned (.bool true) ∧ Below w.heap.size w w'))
    (hA : ((∀ W, Calls Tryd.prog 29 #[.int .i64 a, .int .i64 b] W fun e w' => e = .returned (.tuple #[.int .i64 S, .int .i64 0]) ∧ W = w') ∧ (∀ W, Calls Tryd.prog 31 #[.int .i64 S, .int .i64 b] W fun e w' => e = .returned (.tuple #[.int .i64 a, .int .i64 0]) ∧ W = w') ∧ (∀ W, Calls Tryd.prog 29 #[.int .i64 b, .int .i64 a] W fun e w' => e = .returned (.tuple #[.int .i64 S, .int .i64 0]) ∧ W = w')) ∨ (∀ W, Calls Tryd.prog 29 #[.int .i64 a, .int .i64 b] W fun e w' => e = .returned (.tuple #[.int .i64 0, .int .i64 17]) ∧ W = w'))
    (M1 : ∀ W, Calls Tryd.prog 39 #[.int .i64 a, .int .i64 b] W fun e w' => e = .returned (.tuple #[.int .i64 P, .int .i64 E]) ∧ W = w') (M2 : ∀ W, Calls Tryd.prog 39 #[.int .i64 b, .int .i64 a] W fun e w' => e = .returned (.tuple #[.int .i64 P, .int .i64 E]) ∧ W = w')
    (hM : (E == 0) = false ∨ (E = 0 ∧ (b != 0) = false) ∨ (E = 0 ∧ (b != 0) = true ∧ (∀ W, Calls Tryd.prog 37 #[.int .i64 P, .int .i64 b] W fun e w' => e = .returned (.tuple #[.int .i64 a, .int .i64 0]) ∧ W = w')))
    (R1 : ∀ W, Calls Tryd.prog 38 #[.int .i64 a, .int .i64 c] W fun e w' => e = .returned (.tuple #[.int .i64 0, .int .i64 0]) ∧ W = w') (c0 : (c == 0) = false) (h1 : 0 ≤ a) (h3 : c < 0) :
    Calls Tryd.prog 12 #[.int .i64 a, .int .i64 b, .int .i64 c] w fun e w' => e = .returned (.bool true) ∧ Below w.heap.size w w' := by
  rcases hA with ⟨A1, A2, A3⟩ | A4
  · rcases hM with hM | ⟨rfl, hM⟩ | ⟨rfl, hM, D1⟩
    · go_enter Tryd.func12, Tryd.ntmps12
      go_wp2_with (first | (go_at_call 29; (with_reducible refine (A1 _).mono ?_); rintro e w' ⟨rfl, rfl⟩) | (go_at_call 31; (with_reducible refine (A2 _).mono ?_); rintro e w' ⟨rfl, rfl⟩) | (go_at_call 29; (with_reducible refine (A3 _).mono ?_); rintro e w' ⟨rfl, rfl⟩) | (go_at_call 39; (with_reducible refine (M1 _).mono ?_); rintro e w' ⟨rfl, rfl⟩) | (go_at_call 39; (with_reducible refine (M2 _).mono ?_); rintro e w' ⟨rfl, rfl⟩) | (go_at_call 38; (with_reducible refine (R1 _).mono ?_); rintro e w' ⟨rfl, rfl⟩) | (go_at_call 19; (with_reducible refine K.out.mono ?_); rintro e w' ⟨rfl, hb⟩))
      go_ret
      exact ⟨rfl, hb⟩
    · go_enter Tryd.func12, Tryd.ntmps12
      go_wp2_with (first | (go_at_call 29; (with_reducible refine (A1 _).mono ?_); rintro e w' ⟨rfl, rfl⟩) | (go_at_call 31; (with_reducible refine (A2 _).mono ?_); rintro e w' ⟨rfl, rfl⟩) | (go_at_call 29; (with_reducible refine (A3 _).mono ?_); rintro e w' ⟨rfl, rfl⟩) | (go_at_call 39; (with_reducible refine (M1 _).mono ?_); rintro e w' ⟨rfl, rfl⟩) | (go_at_call 39; (with_reducible refine (M2 _).mono ?_); rintro e w' ⟨rfl, rfl⟩) | (go_at_call 38; (with_reducible refine (R1 _).mono ?_); rintro e w' ⟨rfl, rfl⟩) | (go_at_call 19; (with_reducible refine K.out.mono ?_); rintro e w' ⟨rfl, hb⟩))
      go_ret
      exact ⟨rfl, hb⟩
    · go_enter Tryd.func12, Tryd.ntmps12
      go_wp2_with (first | (go_at_call 29; (with_reducible refine (A1 _).mono ?_); rintro e w' ⟨rfl, rfl⟩) | (go_at_call 31; (with_reducible refine (A2 _).mono ?_); rintro e w' ⟨rfl, rfl⟩) | (go_at_call 29; (with_reducible refine (A3 _).mono ?_); rintro e w' ⟨rfl, rfl⟩) | (go_at_call 39; (with_reducible refine (M1 _).mono ?_); rintro e w' ⟨rfl, rfl⟩) | (go_at_call 39; (with_reducible refine (M2 _).mono ?_); rintro e w' ⟨rfl, rfl⟩) | (go_at_call 38; (with_reducible refine (R1 _).mono ?_); rintro e w' ⟨rfl, rfl⟩) | (go_at_call 19; (with_reducible refine K.out.mono ?_); rintro e w' ⟨rfl, hb⟩) | (go_at_call 37; (with_reducible refine (D1 _).mono ?_); rintro e w' ⟨rfl, rfl⟩))
      go_ret
      exact ⟨rfl, hb⟩
  · rcases hM with hM | ⟨rfl, hM⟩ | ⟨rfl, hM, D1⟩
    · go_enter Tryd.func12, Tryd.ntmps12
      go_wp2_with (first | (go_at_call 29; (with_reducible refine (A4 _).mono ?_); rintro e w' ⟨rfl, rfl⟩) | (go_at_call 39; (with_reducible refine (M1 _).mono ?_); rintro e w' ⟨rfl, rfl⟩) | (go_at_call 39; (with_reducible refine (M2 _).mono ?_); rintro e w' ⟨rfl, rfl⟩) | (go_at_call 38; (with_reducible refine (R1 _).mono ?_); rintro e w' ⟨rfl, rfl⟩) | (go_at_call 19; (with_reducible refine K.out.mono ?_); rintro e w' ⟨rfl, hb⟩))
      go_ret
      exact ⟨rfl, hb⟩
    · go_enter Tryd.func12, Tryd.ntmps12
      go_wp2_with (first | (go_at_call 29; (with_reducible refine (A4 _).mono ?_); rintro e w' ⟨rfl, rfl⟩) | (go_at_call 39; (with_reducible refine (M1 _).mono ?_); rintro e w' ⟨rfl, rfl⟩) | (go_at_call 39; (with_reducible refine (M2 _).mono ?_); rintro e w' ⟨rfl, rfl⟩) | (go_at_call 38; (with_reducible refine (R1 _).mono ?_); rintro e w' ⟨rfl, rfl⟩) | (go_at_call 19; (with_reducible refine K.out.mono ?_); rintro e w' ⟨rfl, hb⟩))
      go_ret
      exact ⟨rfl, hb⟩
    · go_enter Tryd.func12, Tryd.ntmps12
      go_wp2_with (first | (go_at_call 29; (with_reducible refine (A4 _).mono ?_); rintro e w' ⟨rfl, rfl⟩) | (go_at_call 39; (with_reducible refine (M1 _).mono ?_); rintro e w' ⟨rfl, rfl⟩) | (go_at_call 39; (with_reducible refine (M2 _).mono ?_); rintro e w' ⟨rfl, rfl⟩) | (go_at_call 38; (with_reducible refine (R1 _).mono ?_); rintro e w' ⟨rfl, rfl⟩) | (go_at_call 19; (with_reducible refine K.out.mono ?_); rintro e w' ⟨rfl, hb⟩) | (go_at_call 37; (with_reducible refine (D1 _).mono ?_); rintro e w' ⟨rfl, rfl⟩))
      go_ret
      exact ⟨rfl, hb⟩

set_option maxHeartbeats 2000000 in
theorem laws_p0p (a b c S P E : Int) (w : World) (K : Hid (Calls Tryd.prog 19 #[] w fun e w' => e = .returned (.bool true) ∧ Below w.heap.size w w'))
    (hA : ((∀ W, Calls Tryd.prog 29 #[.int .i64 a, .int .i64 b] W fun e w' => e = .returned (.tuple #[.int .i64 S, .int .i64 0]) ∧ W = w') ∧ (∀ W, Calls Tryd.prog 31 #[.int .i64 S, .int .i64 b] W fun e w' => e = .returned (.tuple #[.int .i64 a, .int .i64 0]) ∧ W = w') ∧ (∀ W, Calls Tryd.prog 29 #[.int .i64 b, .int .i64 a] W fun e w' => e = .returned (.tuple #[.int .i64 S, .int .i64 0]) ∧ W = w')) ∨ (∀ W, Calls Tryd.prog 29 #[.int .i64 a, .int .i64 b] W fun e w' => e = .returned (.tuple #[.int .i64 0, .int .i64 17]) ∧ W = w'))
    (M1 : ∀ W, Calls Tryd.prog 39 #[.int .i64 a, .int .i64 b] W fun e w' => e = .returned (.tuple #[.int .i64 P, .int .i64 E]) ∧ W = w') (M2 : ∀ W, Calls Tryd.prog 39 #[.int .i64 b, .int .i64 a] W fun e w' => e = .returned (.tuple #[.int .i64 P, .int .i64 E]) ∧ W = w')
    (hM : (E == 0) = false ∨ (E = 0 ∧ (b != 0) = false) ∨ (E = 0 ∧ (b != 0) = true ∧ (∀ W, Calls Tryd.prog 37 #[.int .i64 P, .int .i64 b] W fun e w' => e = .returned (.tuple #[.int .i64 a, .int .i64 0]) ∧ W = w')))
    (R1 : ∀ W, Calls Tryd.prog 38 #[.int .i64 a, .int .i64 c] W fun e w' => e = .returned (.tuple #[.int .i64 0, .int .i64 0]) ∧ W = w') (c0 : (c == 0) = false) (h1 : 0 ≤ a) (h3 : 0 < c) (hbd : c ≤ 9223372036854775807) :
    Calls Tryd.prog 12 #[.int .i64 a, .int .i64 b, .int .i64 c] w fun e w' => e = .returned (.bool true) ∧ Below w.heap.size w w' := by
  rcases hA with ⟨A1, A2, A3⟩ | A4
  · rcases hM with hM | ⟨rfl, hM⟩ | ⟨rfl, hM, D1⟩
    · go_enter Tryd.func12, Tryd.ntmps12
      go_wp2_with (first | (go_at_call 29; (with_reducible refine (A1 _).mono ?_); rintro e w' ⟨rfl, rfl⟩) | (go_at_call 31; (with_reducible refine (A2 _).mono ?_); rintro e w' ⟨rfl, rfl⟩) | (go_at_call 29; (with_reducible refine (A3 _).mono ?_); rintro e w' ⟨rfl, rfl⟩) | (go_at_call 39; (with_reducible refine (M1 _).mono ?_); rintro e w' ⟨rfl, rfl⟩) | (go_at_call 39; (with_reducible refine (M2 _).mono ?_); rintro e w' ⟨rfl, rfl⟩) | (go_at_call 38; (with_reducible refine (R1 _).mono ?_); rintro e w' ⟨rfl, rfl⟩) | (go_at_call 19; (with_reducible refine K.out.mono ?_); rintro e w' ⟨rfl, hb⟩))
      go_ret
      exact ⟨rfl, hb⟩
    · go_enter Tryd.func12, Tryd.ntmps12
      go_wp2_with (first | (go_at_call 29; (with_reducible refine (A1 _).mono ?_); rintro e w' ⟨rfl, rfl⟩) | (go_at_call 31; (with_reducible refine (A2 _).mono ?_); rintro e w' ⟨rfl, rfl⟩) | (go_at_call 29; (with_reducible refine (A3 _).mono ?_); rintro e w' ⟨rfl, rfl⟩) | (go_at_call 39; (with_reducible refine (M1 _).mono ?_); rintro e w' ⟨rfl, rfl⟩) | (go_at_call 39; (with_reducible refine (M2 _).mono ?_); rintro e w' ⟨rfl, rfl⟩) | (go_at_call 38; (with_reducible refine (R1 _).mono ?_); rintro e w' ⟨rfl, rfl⟩) | (go_at_call 19; (with_reducible refine K.out.mono ?_); rintro e w' ⟨rfl, hb⟩))
      go_ret
      exact ⟨rfl, hb⟩
    · go_enter Tryd.func12, Tryd.ntmps12
      go_wp2_with (first | (go_at_call 29; (with_reducible refine (A1 _).mono ?_); rintro e w' ⟨rfl, rfl⟩) | (go_at_call 31; (with_reducible refine (A2 _).mono ?_); rintro e w' ⟨rfl, rfl⟩) | (go_at_call 29; (with_reducible refine (A3 _).mono ?_); rintro e w' ⟨rfl, rfl⟩) | (go_at_call 39; (with_reducible refine (M1 _).mono ?_); rintro e w' ⟨rfl, rfl⟩) | (go_at_call 39; (with_reducible refine (M2 _).mono ?_); rintro e w' ⟨rfl, rfl⟩) | (go_at_call 38; (with_reducible refine (R1 _).mono ?_); rintro e w' ⟨rfl, rfl⟩) | (go_at_call 19; (with_reducible refine K.out.mono ?_); rintro e w' ⟨rfl, hb⟩) | (go_at_call 37; (with_reducible refine (D1 _).mono ?_); rintro e w' ⟨rfl, rfl⟩))
      go_ret
      exact ⟨rfl, hb⟩
  · rcases hM with hM | ⟨rfl, hM⟩ | ⟨rfl, hM, D1⟩
    · go_enter Tryd.func12, Tryd.ntmps12
      go_wp2_with (first | (go_at_call 29; (with_reducible refine (A4 _).mono ?_); rintro e w' ⟨rfl, rfl⟩) | (go_at_call 39; (with_reducible refine (M1 _).mono ?_); rintro e w' ⟨rfl, rfl⟩) | (go_at_call 39; (with_reducible refine (M2 _).mono ?_); rintro e w' ⟨rfl, rfl⟩) | (go_at_call 38; (with_reducible refine (R1 _).mono ?_); rintro e w' ⟨rfl, rfl⟩) | (go_at_call 19; (with_reducible refine K.out.mono ?_); rintro e w' ⟨rfl, hb⟩))
      go_ret
      exact ⟨rfl, hb⟩
    · go_enter Tryd.func12, Tryd.ntmps12
      go_wp2_with (first | (go_at_call 29; (with_reducible refine (A4 _).mono ?_); rintro e w' ⟨rfl, rfl⟩) | (go_at_call 39; (with_reducible refine (M1 _).mono ?_); rintro e w' ⟨rfl, rfl⟩) | (go_at_call 39; (with_reducible refine (M2 _).mono ?_); rintro e w' ⟨rfl, rfl⟩) | (go_at_call 38; (with_reducible refine (R1 _).mono ?_); rintro e w' ⟨rfl, rfl⟩) | (go_at_call 19; (with_reducible refine K.out.mono ?_); rintro e w' ⟨rfl, hb⟩))
      go_ret
      exact ⟨rfl, hb⟩
    · go_enter Tryd.func12, Tryd.ntmps12
      go_wp2_with (first | (go_at_call 29; (with_reducible refine (A4 _).mono ?_); rintro e w' ⟨rfl, rfl⟩) | (go_at_call 39; (with_reducible refine (M1 _).mono ?_); rintro e w' ⟨rfl, rfl⟩) | (go_at_call 39; (with_reducible refine (M2 _).mono ?_); rintro e w' ⟨rfl, rfl⟩) | (go_at_call 38; (with_reducible refine (R1 _).mono ?_); rintro e w' ⟨rfl, rfl⟩) | (go_at_call 19; (with_reducible refine K.out.mono ?_); rintro e w' ⟨rfl, hb⟩) | (go_at_call 37; (with_reducible refine (D1 _).mono ?_); rintro e w' ⟨rfl, rfl⟩))
      go_ret
      exact ⟨rfl, hb⟩

set_option maxHeartbeats 2000000 in
theorem laws_ppn (a b c S P E m : Int) (w : World) (K : Hid (Calls Tryd.prog 19 #[] w fun e w' => e = .returned (.bool true) ∧ Below w.heap.size w w'))
    (hA : ((∀ W, Calls Tryd.prog 29 #[.int .i64 a, .int .i64 b] W fun e w' => e = .returned (.tuple #[.int .i64 S, .int .i64 0]) ∧ W = w') ∧ (∀ W, Calls Tryd.prog 31 #[.int .i64 S, .int .i64 b] W fun e w' => e = .returned (.tuple #[.int .i64 a, .int .i64 0]) ∧ W = w') ∧ (∀ W, Calls Tryd.prog 29 #[.int .i64 b, .int .i64 a] W fun e w' => e = .returned (.tuple #[.int .i64 S, .int .i64 0]) ∧ W = w')) ∨ (∀ W, Calls Tryd.prog 29 #[.int .i64 a, .int .i64 b] W fun e w' => e = .returned (.tuple #[.int .i64 0, .int .i64 17]) ∧ W = w'))
    (M1 : ∀ W, Calls Tryd.prog 39 #[.int .i64 a, .int .i64 b] W fun e w' => e = .returned (.tuple #[.int .i64 P, .int .i64 E]) ∧ W = w') (M2 : ∀ W, Calls Tryd.prog 39 #[.int .i64 b, .int .i64 a] W fun e w' => e = .returned (.tuple #[.int .i64 P, .int .i64 E]) ∧ W = w')
    (hM : (E == 0) = false ∨ (E = 0 ∧ (b != 0) = false) ∨ (E = 0 ∧ (b != 0) = true ∧ (∀ W, Calls Tryd.prog 37 #[.int .i64 P, .int .i64 b] W fun e w' => e = .returned (.tuple #[.int .i64 a, .int .i64 0]) ∧ W = w')))
    (R1 : ∀ W, Calls Tryd.prog 38 #[.int .i64 a, .int .i64 c] W fun e w' => e = .returned (.tuple #[.int .i64 m, .int .i64 0]) ∧ W = w') (c0 : (c == 0) = false) (h1 : 0 ≤ a) (h2 : 0 < m) (h3 : c < 0) (h4 : c < -m) (hbm : m ≤ 9223372036854775807) :
    Calls Tryd.prog 12 #[.int .i64 a, .int .i64 b, .int .i64 c] w fun e w' => e = .returned (.bool true) ∧ Below w.heap.size w w' := by
  rcases hA with ⟨A1, A2, A3⟩ | A4
  · rcases hM with hM | ⟨rfl, hM⟩ | ⟨rfl, hM, D1⟩
    · go_enter Tryd.func12, Tryd.ntmps12
      go_wp2_with (first | (go_at_call 29; (with_reducible refine (A1 _).mono ?_); rintro e w' ⟨rfl, rfl⟩) | (go_at_call 31; (with_reducible refine (A2 _).mono ?_); rintro e w' ⟨rfl, rfl⟩) | (go_at_call 29; (with_reducible refine (A3 _).mono ?_); rintro e w' ⟨rfl, rfl⟩) | (go_at_call 39; (with_reducible refine (M1 _).mono ?_); rintro e w' ⟨rfl, rfl⟩) | (go_at_call 39; (with_reducible refine (M2 _).mono ?_); rintro e w' ⟨rfl, rfl⟩) | (go_at_call 38; (with_reducible refine (R1 _).mono ?_); rintro e w' ⟨rfl, rfl⟩) | (go_at_call 19; (with_reducible refine K.out.mono ?_); rintro e w' ⟨rfl, hb⟩))
      go_ret
      exact ⟨rfl, hb⟩
    · go_enter Tryd.func12, Tryd.ntmps12
      go_wp2_with (first | (go_at_call 29; (with_reducible refine (A1 _).mono ?_); rintro e w' ⟨rfl, rfl⟩) | (go_at_call 31; (with_reducible refine (A2 _).mono ?_); rintro e w' ⟨rfl, rfl⟩) | (go_at_call 29; (with_reducible refine (A3 _).mono ?_); rintro e w' ⟨rfl, rfl⟩) | (go_at_call 39; (with_reducible refine (M1 _).mono ?_); rintro e w' ⟨rfl, rfl⟩) | (go_at_call 39; (with_reducible refine (M2 _).mono ?_); rintro e w' ⟨rfl, rfl⟩) | (go_at_call 38; (with_reducible refine (R1 _).mono ?_); rintro e w' ⟨rfl, rfl⟩) | (go_at_call 19; (with_reducible refine K.out.mono ?_); rintro e w' ⟨rfl, hb⟩))
      go_ret
      exact ⟨rfl, hb⟩
    · go_enter Tryd.func12, Tryd.ntmps12
      go_wp2_with (first | (go_at_call 29; (with_reducible refine (A1 _).mono ?_); rintro e w' ⟨rfl, rfl⟩) | (go_at_call 31; (with_reducible refine (A2 _).mono ?_); rintro e w' ⟨rfl, rfl⟩) | (go_at_call 29; (with_reducible refine (A3 _).mono ?_); rintro e w' ⟨rfl, rfl⟩) | (go_at_call 39; (with_reducible refine (M1 _).mono ?_); rintro e w' ⟨rfl, rfl⟩) | (go_at_call 39; (with_reducible refine (M2 _).mono ?_); rintro e w' ⟨rfl, rfl⟩) | (go_at_call 38; (with_reducible refine (R1 _).mono ?_); rintro e w' ⟨rfl, rfl⟩) | (go_at_call 19; (with_reducible refine K.out.mono ?_); rintro e w' ⟨rfl, hb⟩) | (go_at_call 37; (with_reducible refine (D1 _).mono ?_); rintro e w' ⟨rfl, rfl⟩))
      go_ret
      exact ⟨rfl, hb⟩
  · rcases hM with hM | ⟨rfl, hM⟩ | ⟨rfl, hM, D1⟩
    · go_enter Tryd.func12, Tryd.ntmps12
      go_wp2_with (first | (go_at_call 29; (with_reducible refine (A4 _).mono ?_); rintro e w' ⟨rfl, rfl⟩) | (go_at_call 39; (with_reducible refine (M1 _).mono ?_); rintro e w' ⟨rfl, rfl⟩) | (go_at_call 39; (with_reducible refine (M2 _).mono ?_); rintro e w' ⟨rfl, rfl⟩) | (go_at_call 38; (with_reducible refine (R1 _).mono ?_); rintro e w' ⟨rfl, rfl⟩) | (go_at_call 19; (with_reducible refine K.out.mono ?_); rintro e w' ⟨rfl, hb⟩))
      go_ret
      exact ⟨rfl, hb⟩
    · go_enter Tryd.func12, Tryd.ntmps12
      go_wp2_with (first | (go_at_call 29; (with_reducible refine (A4 _).mono ?_); rintro e w' ⟨rfl, rfl⟩) | (go_at_call 39; (with_reducible refine (M1 _).mono ?_); rintro e w' ⟨rfl, rfl⟩) | (go_at_call 39; (with_reducible refine (M2 _).mono ?_); rintro e w' ⟨rfl, rfl⟩) | (go_at_call 38; (with_reducible refine (R1 _).mono ?_); rintro e w' ⟨rfl, rfl⟩) | (go_at_call 19; (with_reducible refine K.out.mono ?_); rintro e w' ⟨rfl, hb⟩))
      go_ret
      exact ⟨rfl, hb⟩
    · go_enter Tryd.func12, Tryd.ntmps12
      go_wp2_with (first | (go_at_call 29; (with_reducible refine (A4 _).mono ?_); rintro e w' ⟨rfl, rfl⟩) | (go_at_call 39; (with_reducible refine (M1 _).mono ?_); rintro e w' ⟨rfl, rfl⟩) | (go_at_call 39; (with_reducible refine (M2 _).mono ?_); rintro e w' ⟨rfl, rfl⟩) | (go_at_call 38; (with_reducible refine (R1 _).mono ?_); rintro e w' ⟨rfl, rfl⟩) | (go_at_call 19; (with_reducible refine K.out.mono ?_); rintro e w' ⟨rfl, hb⟩) | (go_at_call 37; (with_reducible refine (D1 _).mono ?_); rintro e w' ⟨rfl, rfl⟩))
      go_ret
      exact ⟨rfl, hb⟩

set_option maxHeartbeats 2000000 in
theorem laws_ppp (a b c S P E m : Int) (w : World) (K : Hid (Calls Tryd.prog 19 #[] w fun e w' => e = .returned (.bool true) ∧ Below w.heap.size w w'))
    (hA : ((∀ W, Calls Tryd.prog 29 #[.int .i64 a, .int .i64 b] W fun e w' => e = .returned (.tuple #[.int .i64 S, .int .i64 0]) ∧ W = w') ∧ (∀ W, Calls Tryd.prog 31 #[.int .i64 S, .int .i64 b] W fun e w' => e = .returned (.tuple #[.int .i64 a, .int .i64 0]) ∧ W = w') ∧ (∀ W, Calls Tryd.prog 29 #[.int .i64 b, .int .i64 a] W fun e w' => e = .returned (.tuple #[.int .i64 S, .int .i64 0]) ∧ W = w')) ∨ (∀ W, Calls Tryd.prog 29 #[.int .i64 a, .int .i64 b] W fun e w' => e = .returned (.tuple #[.int .i64 0, .int .i64 17]) ∧ W = w'))
    (M1 : ∀ W, Calls Tryd.prog 39 #[.int .i64 a, .int .i64 b] W fun e w' => e = .returned (.tuple #[.int .i64 P, .int .i64 E]) ∧ W = w') (M2 : ∀ W, Calls Tryd.prog 39 #[.int .i64 b, .int .i64 a] W fun e w' => e = .returned (.tuple #[.int .i64 P, .int .i64 E]) ∧ W = w')
    (hM : (E == 0) = false ∨ (E = 0 ∧ (b != 0) = false) ∨ (E = 0 ∧ (b != 0) = true ∧ (∀ W, Calls Tryd.prog 37 #[.int .i64 P, .int .i64 b] W fun e w' => e = .returned (.tuple #[.int .i64 a, .int .i64 0]) ∧ W = w')))
    (R1 : ∀ W, Calls Tryd.prog 38 #[.int .i64 a, .int .i64 c] W fun e w' => e = .returned (.tuple #[.int .i64 m, .int .i64 0]) ∧ W = w') (c0 : (c == 0) = false) (h1 : 0 ≤ a) (h2 : 0 < m) (h3 : 0 < c) (h4 : -c < -m) (hbd : c ≤ 9223372036854775807) (hbm : m ≤ 9223372036854775807) :
    Calls Tryd.prog 12 #[.int .i64 a, .int .i64 b, .int .i64 c] w fun e w' => e = .returned (.bool true) ∧ Below w.heap.size w w' := by
  rcases hA with ⟨A1, A2, A3⟩ | A4
  · rcases hM with hM | ⟨rfl, hM⟩ | ⟨rfl, hM, D1⟩
    · go_enter Tryd.func12, Tryd.ntmps12
      go_wp2_with (first | (go_at_call 29; (with_reducible refine (A1 _).mono ?_); rintro e w' ⟨rfl, rfl⟩) | (go_at_call 31; (with_reducible refine (A2 _).mono ?_); rintro e w' ⟨rfl, rfl⟩) | (go_at_call 29; (with_reducible refine (A3 _).mono ?_); rintro e w' ⟨rfl, rfl⟩) | (go_at_call 39; (with_reducible refine (M1 _).mono ?_); rintro e w' ⟨rfl, rfl⟩) | (go_at_call 39; (with_reducible refine (M2 _).mono ?_); rintro e w' ⟨rfl, rfl⟩) | (go_at_call 38; (with_reducible refine (R1 _).mono ?_); rintro e w' ⟨rfl, rfl⟩) | (go_at_call 19; (with_reducible refine K.out.mono ?_); rintro e w' ⟨rfl, hb⟩))
      go_ret
      exact ⟨rfl, hb⟩
    · go_enter Tryd.func12, Tryd.ntmps12
      go_wp2_with (first | (go_at_call 29; (with_reducible refine (A1 _).mono ?_); rintro e w' ⟨rfl, rfl⟩) | (go_at_call 31; (with_reducible refine (A2 _).mono ?_); rintro e w' ⟨rfl, rfl⟩) | (go_at_call 29; (with_reducible refine (A3 _).mono ?_); rintro e w' ⟨rfl, rfl⟩) | (go_at_call 39; (with_reducible refine (M1 _).mono ?_); rintro e w' ⟨rfl, rfl⟩) | (go_at_call 39; (with_reducible refine (M2 _).mono ?_); rintro e w' ⟨rfl, rfl⟩) | (go_at_call 38; (with_reducible refine (R1 _).mono ?_); rintro e w' ⟨rfl, rfl⟩) | (go_at_call 19; (with_reducible refine K.out.mono ?_); rintro e w' ⟨rfl, hb⟩))
      go_ret
      exact ⟨rfl, hb⟩
    · go_enter Tryd.func12, Tryd.ntmps12
      go_wp2_with (first | (go_at_call 29; (with_reducible refine (A1 _).mono ?_); rintro e w' ⟨rfl, rfl⟩) | (go_at_call 31; (with_reducible refine (A2 _).mono ?_); rintro e w' ⟨rfl, rfl⟩) | (go_at_call 29; (with_reducible refine (A3 _).mono ?_); rintro e w' ⟨rfl, rfl⟩) | (go_at_call 39; (with_reducible refine (M1 _).mono ?_); rintro e w' ⟨rfl, rfl⟩) | (go_at_call 39; (with_reducible refine (M2 _).mono ?_); rintro e w' ⟨rfl, rfl⟩) | (go_at_call 38; (with_reducible refine (R1 _).mono ?_); rintro e w' ⟨rfl, rfl⟩) | (go_at_call 19; (with_reducible refine K.out.mono ?_); rintro e w' ⟨rfl, hb⟩) | (go_at_call 37; (with_reducible refine (D1 _).mono ?_); rintro e w' ⟨rfl, rfl⟩))
      go_ret
      exact ⟨rfl, hb⟩
  · rcases hM with hM | ⟨rfl, hM⟩ | ⟨rfl, hM, D1⟩
    · go_enter Tryd.func12, Tryd.ntmps12
      go_wp2_with (first | (go_at_call 29; (with_reducible refine (A4 _).mono ?_); rintro e w' ⟨rfl, rfl⟩) | (go_at_call 39; (with_reducible refine (M1 _).mono ?_); rintro e w' ⟨rfl, rfl⟩) | (go_at_call 39; (with_reducible refine (M2 _).mono ?_); rintro e w' ⟨rfl, rfl⟩) | (go_at_call 38; (with_reducible refine (R1 _).mono ?_); rintro e w' ⟨rfl, rfl⟩) | (go_at_call 19; (with_reducible refine K.out.mono ?_); rintro e w' ⟨rfl, hb⟩))
      go_ret
      exact ⟨rfl, hb⟩
    · go_enter Tryd.func12, Tryd.ntmps12
      go_wp2_with (first | (go_at_call 29; (with_reducible refine (A4 _).mono ?_); rintro e w' ⟨rfl, rfl⟩) | (go_at_call 39; (with_reducible refine (M1 _).mono ?_); rintro e w' ⟨rfl, rfl⟩) | (go_at_call 39; (with_reducible refine (M2 _).mono ?_); rintro e w' ⟨rfl, rfl⟩) | (go_at_call 38; (with_reducible refine (R1 _).mono ?_); rintro e w' ⟨rfl, rfl⟩) | (go_at_call 19; (with_reducible refine K.out.mono ?_); rintro e w' ⟨rfl, hb⟩))
      go_ret
      exact ⟨rfl, hb⟩
    · go_enter Tryd.func12, Tryd.ntmps12
      go_wp2_with (first | (go_at_call 29; (with_reducible refine (A4 _).mono ?_); rintro e w' ⟨rfl, rfl⟩) | (go_at_call 39; (with_reducible refine (M1 _).mono ?_); rintro e w' ⟨rfl, rfl⟩) | (go_at_call 39; (with_reducible refine (M2 _).mono ?_); rintro e w' ⟨rfl, rfl⟩) | (go_at_call 38; (with_reducible refine (R1 _).mono ?_); rintro e w' ⟨rfl, rfl⟩) | (go_at_call 19; (with_reducible refine K.out.mono ?_); rintro e w' ⟨rfl, hb⟩) | (go_at_call 37; (with_reducible refine (D1 _).mono ?_); rintro e w' ⟨rfl, rfl⟩))
      go_ret
      exact ⟨rfl, hb⟩

theorem walk_IntsLaws (a b c : Int) (w0 : (Lit.int .i64 a).wf = true) (w1 : (Lit.int .i64 b).wf = true) (w2 : (Lit.int .i64 c).wf = true) (w : World) (hT : Tabs w) :
    Calls Tryd.prog 12 #[.int .i64 a, .int .i64 b, .int .i64 c] w fun e w' => e = .returned (.bool true) ∧ Below w.heap.size w w' := by
  have ha := fits_wf w0
  have hb := fits_wf w1
  have hc := fits_wf w2
  have K := Lib.hid (awake_any w hT)
  have hA : ((∀ W, Calls Tryd.prog 29 #[.int .i64 a, .int .i64 b] W fun e w' => e = .returned (.tuple #[.int .i64 (a + b), .int .i64 0]) ∧ W = w') ∧ (∀ W, Calls Tryd.prog 31 #[.int .i64 (a + b), .int .i64 b] W fun e w' => e = .returned (.tuple #[.int .i64 a, .int .i64 0]) ∧ W = w') ∧ (∀ W, Calls Tryd.prog 29 #[.int .i64 b, .int .i64 a] W fun e w' => e = .returned (.tuple #[.int .i64 (a + b), .int .i64 0]) ∧ W = w')) ∨ (∀ W, Calls Tryd.prog 29 #[.int .i64 a, .int .i64 b] W fun e w' => e = .returned (.tuple #[.int .i64 0, .int .i64 17]) ∧ W = w') := by
    cases hf : fits (a + b)
    · right; exact fun W => (add_any a b W ha hb).mono fun e w' ⟨he, hw⟩ => ⟨he.trans (ret2 (val1_no hf) (err1_no hf)), hw⟩
    · left
      refine ⟨fun W => (add_any a b W ha hb).mono fun e w' ⟨he, hw⟩ => ⟨he.trans (ret2 (val1_yes hf) (err1_yes hf)), hw⟩, fun W => (sub_any (a + b) b W hf hb).mono fun e w' ⟨he, hw⟩ => ⟨he.trans (ret2 ?_ ?_), hw⟩, fun W => (add_any b a W hb ha).mono fun e w' ⟨he, hw⟩ => ⟨he.trans (ret2 ?_ ?_), hw⟩⟩
      · rw [show a + b - b = a by omega]; exact val1_yes ha
      · rw [show a + b - b = a by omega]; exact err1_yes ha
      · rw [Int.add_comm b a]; exact val1_yes hf
      · rw [Int.add_comm b a]; exact err1_yes hf
  have M1 : ∀ W, Calls Tryd.prog 39 #[.int .i64 a, .int .i64 b] W fun e w' => e = .returned (.tuple #[.int .i64 (val1 (a * b)), .int .i64 (err1 (a * b))]) ∧ W = w' := fun W => mul_any a b W ha hb
  have M2 : ∀ W, Calls Tryd.prog 39 #[.int .i64 b, .int .i64 a] W fun e w' => e = .returned (.tuple #[.int .i64 (val1 (a * b)), .int .i64 (err1 (a * b))]) ∧ W = w' := fun W => (mul_any b a W hb ha).mono fun e w' ⟨he, hw⟩ => ⟨he.trans (ret2 (by rw [Int.mul_comm]) (by rw [Int.mul_comm])), hw⟩
  have hM : (err1 (a * b) == 0) = false ∨ (err1 (a * b) = 0 ∧ (b != 0) = false) ∨ (err1 (a * b) = 0 ∧ (b != 0) = true ∧ (∀ W, Calls Tryd.prog 37 #[.int .i64 (val1 (a * b)), .int .i64 b] W fun e w' => e = .returned (.tuple #[.int .i64 a, .int .i64 0]) ∧ W = w')) := by
    cases hf : fits (a * b)
    · left; rw [err1_no hf]; rfl
    · right
      by_cases b0 : b = 0
      · left; exact ⟨err1_yes hf, by simpa using b0⟩
      · right
        refine ⟨err1_yes hf, by simpa using b0, fun W => (div_any _ b W (by rw [val1_yes hf]; exact hf)).mono fun e w' ⟨he, hw⟩ => ⟨he.trans (ret2 ?_ ?_), hw⟩⟩
        · rw [val1_yes hf, divV, if_neg b0, Int.mul_tdiv_cancel a b0]; exact val1_yes ha
        · rw [val1_yes hf, divE, if_neg b0, Int.mul_tdiv_cancel a b0]; exact err1_yes ha
  generalize val1 (a * b) = P at *
  generalize err1 (a * b) = E at *
  generalize a + b = S at *
  by_cases c0 : c = 0
  · exact laws_z a b c S P E w K hA M1 M2 hM (fun W => (mod_any a c W).mono fun e w' ⟨he, hw⟩ => ⟨he.trans (ret2 (by simp [modV, c0]) (by simp [modE, c0])), hw⟩) (by simpa using c0)
  · have R1 : ∀ W, Calls Tryd.prog 38 #[.int .i64 a, .int .i64 c] W fun e w' => e = .returned (.tuple #[.int .i64 (a.tmod c), .int .i64 0]) ∧ W = w' := fun W => (mod_any a c W).mono fun e w' ⟨he, hw⟩ => ⟨he.trans (ret2 (by simp [modV, c0]) (by simp [modE, c0])), hw⟩
    have h0 : (c == 0) = false := by simpa using c0
    have ba := bd ha
    have bc := bd hc
    have hm : (a.tmod c).natAbs < c.natAbs := by rw [Int.natAbs_tmod]; exact Nat.mod_lt _ (by omega)
    rcases Int.lt_or_le a 0 with h1 | h1
    · have h2 : a.tmod c ≤ 0 := by
        have := Int.tmod_nonneg (a := -a) c (by omega)
        rw [Int.neg_tmod] at this; omega
      generalize a.tmod c = m at *
      rcases Int.lt_or_le c 0 with h3 | h3
      · exact laws_nn a b c S P E m w K hA M1 M2 hM R1 h0 h1 h2 h3 (by omega)
      · exact laws_np a b c S P E m w K hA M1 M2 hM R1 h0 h1 h2 (by omega) (by omega) bc.2
    · have h2 : 0 ≤ a.tmod c := Int.tmod_nonneg c h1
      generalize a.tmod c = m at *
      by_cases hz : m = 0
      · subst hz
        rcases Int.lt_or_le c 0 with h3 | h3
        · exact laws_p0n a b c S P E w K hA M1 M2 hM R1 h0 h1 h3
        · exact laws_p0p a b c S P E w K hA M1 M2 hM R1 h0 h1 (by omega) bc.2
      · rcases Int.lt_or_le c 0 with h3 | h3
        · exact laws_ppn a b c S P E m w K hA M1 M2 hM R1 h0 h1 (by omega) h3 (by omega) (by omega)
        · exact laws_ppp a b c S P E m w K hA M1 M2 hM R1 h0 h1 (by omega) (by omega) (by omega) bc.2 (by omega)
end Go.Proofs.YtcklidpfmpanhaaDoor
