/- IntsSums is true of every input: the walk, where the table of powers of ten stands. -/
import Derived.Test.YtcklidpfmpanhaaDoorIntsF
namespace Go.Proofs.YtcklidpfmpanhaaDoor
open Go.ChangeShapes Go.WideShapes Go.ChangeAt Go.RowKit

theorem walk_IntsSums (a b : Int) (w0 : (Lit.int .i64 a).wf = true) (w1 : (Lit.int .i64 b).wf = true) (w : World) (hT : Tabs w) :
    Calls Tryd.prog 7 #[.int .i64 a, .int .i64 b] w fun e w' => e = .returned (.bool true) ∧ Below w.heap.size w w' := by
  have ha := Lib.hid (fits_wf w0)
  have hb := Lib.hid (fits_wf w1)
  clear w0 w1
  have K := Lib.hid (awake_any w hT)
  clear hT
  go_enter Tryd.func7, Tryd.ntmps7
  go_wp2_with (first | (go_at_call 29; (with_reducible refine (add_any a b _ ha.out hb.out).mono ?_); rintro e w' ⟨rfl, rfl⟩) | (go_at_call 30; (with_reducible refine (radd_any a b _ ha.out hb.out).mono ?_); rintro e w' ⟨rfl, rfl⟩) | (go_at_call 31; (with_reducible refine (sub_any a b _ ha.out hb.out).mono ?_); rintro e w' ⟨rfl, rfl⟩) | (go_at_call 32; (with_reducible refine (rsub_any a b _ ha.out hb.out).mono ?_); rintro e w' ⟨rfl, rfl⟩) | (go_at_call 33; (with_reducible refine (neg_any a _ ha.out).mono ?_); rintro e w' ⟨rfl, rfl⟩) | (go_at_call 34; (with_reducible refine (rneg_any a _ ha.out).mono ?_); rintro e w' ⟨rfl, rfl⟩) | (go_at_call 18; (with_reducible refine (same_any _ _ _).mono ?_); rintro e w' ⟨rfl, rfl⟩) | (go_at_call 19; (with_reducible refine K.out.mono ?_); rintro e w' ⟨rfl, hb⟩))
  go_ret
  exact ⟨rfl, hb⟩
end Go.Proofs.YtcklidpfmpanhaaDoor
