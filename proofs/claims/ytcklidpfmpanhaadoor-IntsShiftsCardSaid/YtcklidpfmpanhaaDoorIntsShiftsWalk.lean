/- IntsShifts is true of every input: the walk, where the table of powers of ten stands. -/
import Derived.Test.YtcklidpfmpanhaaDoorIntsF
namespace Go.Proofs.YtcklidpfmpanhaaDoor
open Go.ChangeShapes Go.WideShapes Go.ChangeAt Go.RowKit

theorem walk_IntsShifts (a n : Int) (w0 : (Lit.int .i64 a).wf = true) (_w1 : (Lit.int .i64 n).wf = true) (w : World) (hT : Tabs w) :
    Calls Tryd.prog 5 #[.int .i64 a, .int .i64 n] w fun e w' => e = .returned (.bool true) ∧ Below w.heap.size w w' := by
  have ha := fits_wf w0
  clear w0
  have K := Lib.hid (awake_any w hT)
  clear hT
  have C1 : ∀ W, Calls Tryd.prog 23 #[.int .i64 a, .int .i64 n] W fun e w' => e = .returned (.tuple #[.int .i64 (shlV a n), .int .i64 (shlE a n)]) ∧ W = w' := fun W => shl_any a n W
  have C2 : ∀ W, Calls Tryd.prog 24 #[.int .i64 a, .int .i64 n] W fun e w' => e = .returned (.tuple #[.int .i64 (shlV a n), .int .i64 (shlE a n)]) ∧ W = w' := fun W => rshl_any a n W ha
  have C3 : ∀ W, Calls Tryd.prog 25 #[.int .i64 a, .int .i64 n] W fun e w' => e = .returned (.tuple #[.int .i64 (shrV a n), .int .i64 (shrE n)]) ∧ W = w' := fun W => shr_any a n W
  have C4 : ∀ W, Calls Tryd.prog 26 #[.int .i64 a, .int .i64 n] W fun e w' => e = .returned (.tuple #[.int .i64 (shrV a n), .int .i64 (shrE n)]) ∧ W = w' := fun W => rshr_any a n W ha
  have hd : (shlE a n == 0) = false ∨ (shlE a n = 0 ∧ ∀ W, Calls Tryd.prog 25 #[.int .i64 (shlV a n), .int .i64 n] W fun e w' => e = .returned (.tuple #[.int .i64 a, .int .i64 0]) ∧ W = w') := by
    cases hn : inSh n
    · left; simp [shlE, hn]
    · cases hf : fits (a * 2 ^ n.toNat)
      · left; simp [shlE, hn, err1_no hf]
      · right
        have e1 : shlE a n = 0 := by simp [shlE, hn, err1_yes hf]
        have e2 : shlV a n = a * 2 ^ n.toNat := by simp [shlV, hn, val1_yes hf]
        refine ⟨e1, fun W => (shr_any _ n W).mono fun e w' ⟨he, hw⟩ => ⟨he.trans (ret2 ?_ ?_), hw⟩⟩
        · simp only [shrV, hn, if_true, e2, shr_back]
        · simp [shrE, hn]
  clear ha
  generalize shlV a n = x at *
  generalize shlE a n = y at *
  generalize shrV a n = z at *
  generalize shrE n = u at *
  rcases hd with hd | ⟨rfl, C5⟩
  · go_enter Tryd.func5, Tryd.ntmps5
    go_wp2_with (first | (go_at_call 23; (with_reducible refine (C1 _).mono ?_); rintro e w' ⟨rfl, rfl⟩) | (go_at_call 24; (with_reducible refine (C2 _).mono ?_); rintro e w' ⟨rfl, rfl⟩) | (go_at_call 25; (with_reducible refine (C3 _).mono ?_); rintro e w' ⟨rfl, rfl⟩) | (go_at_call 26; (with_reducible refine (C4 _).mono ?_); rintro e w' ⟨rfl, rfl⟩) | (go_at_call 18; (with_reducible refine (same_any _ _ _).mono ?_); rintro e w' ⟨rfl, rfl⟩) | (go_at_call 19; (with_reducible refine K.out.mono ?_); rintro e w' ⟨rfl, hb⟩))
    go_ret
    exact ⟨rfl, hb⟩
  · go_enter Tryd.func5, Tryd.ntmps5
    go_wp2_with (first | (go_at_call 23; (with_reducible refine (C1 _).mono ?_); rintro e w' ⟨rfl, rfl⟩) | (go_at_call 24; (with_reducible refine (C2 _).mono ?_); rintro e w' ⟨rfl, rfl⟩) | (go_at_call 25; (with_reducible refine (C5 _).mono ?_); rintro e w' ⟨rfl, rfl⟩) | (go_at_call 25; (with_reducible refine (C3 _).mono ?_); rintro e w' ⟨rfl, rfl⟩) | (go_at_call 26; (with_reducible refine (C4 _).mono ?_); rintro e w' ⟨rfl, rfl⟩) | (go_at_call 18; (with_reducible refine (same_any _ _ _).mono ?_); rintro e w' ⟨rfl, rfl⟩) | (go_at_call 19; (with_reducible refine K.out.mono ?_); rintro e w' ⟨rfl, hb⟩))
    go_ret
    exact ⟨rfl, hb⟩
end Go.Proofs.YtcklidpfmpanhaaDoor
