/- IntsWidths is true of every input: the walk, where the table of powers of ten stands. -/
import Derived.Test.YtcklidpfmpanhaaDoorIntsF
namespace Go.Proofs.YtcklidpfmpanhaaDoor
open Go.ChangeShapes Go.WideShapes Go.ChangeAt Go.RowKit

theorem walk_IntsWidths (x size : Int) (s : Bool) (w0 : (Lit.int .i64 x).wf = true) (_w1 : (Lit.int .i64 size).wf = true) (w : World) (hT : Tabs w) :
    Calls Tryd.prog 3 #[.int .i64 x, .int .i64 size, .bool s] w fun e w' => e = .returned (.bool true) ∧ Below w.heap.size w w' := by
  have ha := Lib.hid (fits_wf w0)
  clear w0
  have K := Lib.hid (awake_any w hT)
  clear hT
  have e1 := Lib.hid (wrapV_wrapV x size s s)
  have e2 := Lib.hid (wrapV_wrapV x size (!s) s)
  have C1 : ∀ W, Calls Tryd.prog 14 #[.int .i64 x, .int .i64 size, .bool s] W fun e w' => e = .returned (.int .i64 (wrapV x size s)) ∧ W = w' := fun W => wrap_any x size s W
  have C2 : ∀ W, Calls Tryd.prog 14 #[.int .i64 x, .int .i64 size, .bool (!s)] W fun e w' => e = .returned (.int .i64 (wrapV x size (!s))) ∧ W = w' := fun W => wrap_any x size (!s) W
  have C3 : ∀ W, Calls Tryd.prog 14 #[.int .i64 (wrapV x size s), .int .i64 size, .bool s] W fun e w' => e = .returned (.int .i64 (wrapV x size s)) ∧ W = w' := fun W => (wrap_any _ size s W).mono fun e w' ⟨he, hw⟩ => ⟨he.trans (ret1 e1.out), hw⟩
  have C4 : ∀ W, Calls Tryd.prog 14 #[.int .i64 (wrapV x size (!s)), .int .i64 size, .bool s] W fun e w' => e = .returned (.int .i64 (wrapV x size s)) ∧ W = w' := fun W => (wrap_any _ size s W).mono fun e w' ⟨he, hw⟩ => ⟨he.trans (ret1 e2.out), hw⟩
  go_enter Tryd.func3, Tryd.ntmps3
  go_wp2_with (first | (go_at_call 14; (with_reducible refine (C1 _).mono ?_); rintro e w' ⟨rfl, rfl⟩) | (go_at_call 14; (with_reducible refine (C2 _).mono ?_); rintro e w' ⟨rfl, rfl⟩) | (go_at_call 14; (with_reducible refine (C3 _).mono ?_); rintro e w' ⟨rfl, rfl⟩) | (go_at_call 14; (with_reducible refine (C4 _).mono ?_); rintro e w' ⟨rfl, rfl⟩) | (go_at_call 17; (with_reducible refine (rwrap_any x size s _ ha.out).mono ?_); rintro e w' ⟨rfl, rfl⟩) | (go_at_call 15; (with_reducible refine (fit_any x size s _).mono ?_); rintro e w' ⟨rfl, rfl⟩) | (go_at_call 16; (with_reducible refine (rfit_any x size s _ ha.out).mono ?_); rintro e w' ⟨rfl, rfl⟩) | (go_at_call 18; (with_reducible refine (same_any _ _ _).mono ?_); rintro e w' ⟨rfl, rfl⟩) | (go_at_call 19; (with_reducible refine K.out.mono ?_); rintro e w' ⟨rfl, hb⟩))
  go_ret
  exact ⟨rfl, hb⟩
end Go.Proofs.YtcklidpfmpanhaaDoor
