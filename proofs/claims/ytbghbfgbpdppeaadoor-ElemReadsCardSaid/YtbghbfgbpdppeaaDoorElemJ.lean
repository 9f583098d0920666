
/- Whether an element's weights go together: the program's and the document's. -/
import Derived.Test.YtbghbfgbpdppeaaDoorElemB
namespace Go.Proofs.YtbghbfgbpdppeaaDoor
open Go.ChangeShapes Go.WideShapes Go.ChangeAt Go.RowKit
set_option linter.unusedVariables false

/-- by whether each weight is nought -/
def okZ (p s t v : Bool) : Bool := (p || (!s && !t)) && (s || !t) && (!v || !p)

theorem eok_000f (x : Int)  (w : World)
    (W1 : Hid (∀ W, Calls Tryd.prog 24 #[.int .u32 x, .int .i64 1] W fun e w' => e = .returned (.int .i64 0) ∧ W = w'))
    (W2 : Hid (∀ W, Calls Tryd.prog 24 #[.int .u32 x, .int .i64 2] W fun e w' => e = .returned (.int .i64 0) ∧ W = w'))
    (W3 : Hid (∀ W, Calls Tryd.prog 24 #[.int .u32 x, .int .i64 3] W fun e w' => e = .returned (.int .i64 0) ∧ W = w'))
    (V : Hid (∀ W, Calls Tryd.prog 25 #[.int .u32 x] W fun e w' => e = .returned (.bool false) ∧ W = w')) :
    Calls Tryd.prog 26 #[.int .u32 x] w fun e w' => e = .returned (.bool (okZ true true true false)) ∧ w = w' := by
  go_enter Tryd.func26, Tryd.ntmps26
  go_wp2_with (first
    | (go_at_call 25; (with_reducible refine (V.out _).mono ?_); rintro e w' ⟨rfl, rfl⟩)
    | (go_at_call 24; (with_reducible refine (W1.out _).mono ?_); rintro e w' ⟨rfl, rfl⟩)
    | (go_at_call 24; (with_reducible refine (W2.out _).mono ?_); rintro e w' ⟨rfl, rfl⟩)
    | (go_at_call 24; (with_reducible refine (W3.out _).mono ?_); rintro e w' ⟨rfl, rfl⟩))
  go_ret
  exact ⟨rfl, rfl⟩
theorem eok_000t (x : Int)  (w : World)
    (W1 : Hid (∀ W, Calls Tryd.prog 24 #[.int .u32 x, .int .i64 1] W fun e w' => e = .returned (.int .i64 0) ∧ W = w'))
    (W2 : Hid (∀ W, Calls Tryd.prog 24 #[.int .u32 x, .int .i64 2] W fun e w' => e = .returned (.int .i64 0) ∧ W = w'))
    (W3 : Hid (∀ W, Calls Tryd.prog 24 #[.int .u32 x, .int .i64 3] W fun e w' => e = .returned (.int .i64 0) ∧ W = w'))
    (V : Hid (∀ W, Calls Tryd.prog 25 #[.int .u32 x] W fun e w' => e = .returned (.bool true) ∧ W = w')) :
    Calls Tryd.prog 26 #[.int .u32 x] w fun e w' => e = .returned (.bool (okZ true true true true)) ∧ w = w' := by
  go_enter Tryd.func26, Tryd.ntmps26
  go_wp2_with (first
    | (go_at_call 25; (with_reducible refine (V.out _).mono ?_); rintro e w' ⟨rfl, rfl⟩)
    | (go_at_call 24; (with_reducible refine (W1.out _).mono ?_); rintro e w' ⟨rfl, rfl⟩)
    | (go_at_call 24; (with_reducible refine (W2.out _).mono ?_); rintro e w' ⟨rfl, rfl⟩)
    | (go_at_call 24; (with_reducible refine (W3.out _).mono ?_); rintro e w' ⟨rfl, rfl⟩))
  go_ret
  exact ⟨rfl, rfl⟩
theorem eok_001f (x : Int) (t : Int) (ht : 0 < t) (w : World)
    (W1 : Hid (∀ W, Calls Tryd.prog 24 #[.int .u32 x, .int .i64 1] W fun e w' => e = .returned (.int .i64 0) ∧ W = w'))
    (W2 : Hid (∀ W, Calls Tryd.prog 24 #[.int .u32 x, .int .i64 2] W fun e w' => e = .returned (.int .i64 0) ∧ W = w'))
    (W3 : Hid (∀ W, Calls Tryd.prog 24 #[.int .u32 x, .int .i64 3] W fun e w' => e = .returned (.int .i64 t) ∧ W = w'))
    (V : Hid (∀ W, Calls Tryd.prog 25 #[.int .u32 x] W fun e w' => e = .returned (.bool false) ∧ W = w')) :
    Calls Tryd.prog 26 #[.int .u32 x] w fun e w' => e = .returned (.bool (okZ true true false false)) ∧ w = w' := by
  go_enter Tryd.func26, Tryd.ntmps26
  go_wp2_with (first
    | (go_at_call 25; (with_reducible refine (V.out _).mono ?_); rintro e w' ⟨rfl, rfl⟩)
    | (go_at_call 24; (with_reducible refine (W1.out _).mono ?_); rintro e w' ⟨rfl, rfl⟩)
    | (go_at_call 24; (with_reducible refine (W2.out _).mono ?_); rintro e w' ⟨rfl, rfl⟩)
    | (go_at_call 24; (with_reducible refine (W3.out _).mono ?_); rintro e w' ⟨rfl, rfl⟩))
  go_ret
  exact ⟨rfl, rfl⟩
theorem eok_001t (x : Int) (t : Int) (ht : 0 < t) (w : World)
    (W1 : Hid (∀ W, Calls Tryd.prog 24 #[.int .u32 x, .int .i64 1] W fun e w' => e = .returned (.int .i64 0) ∧ W = w'))
    (W2 : Hid (∀ W, Calls Tryd.prog 24 #[.int .u32 x, .int .i64 2] W fun e w' => e = .returned (.int .i64 0) ∧ W = w'))
    (W3 : Hid (∀ W, Calls Tryd.prog 24 #[.int .u32 x, .int .i64 3] W fun e w' => e = .returned (.int .i64 t) ∧ W = w'))
    (V : Hid (∀ W, Calls Tryd.prog 25 #[.int .u32 x] W fun e w' => e = .returned (.bool true) ∧ W = w')) :
    Calls Tryd.prog 26 #[.int .u32 x] w fun e w' => e = .returned (.bool (okZ true true false true)) ∧ w = w' := by
  go_enter Tryd.func26, Tryd.ntmps26
  go_wp2_with (first
    | (go_at_call 25; (with_reducible refine (V.out _).mono ?_); rintro e w' ⟨rfl, rfl⟩)
    | (go_at_call 24; (with_reducible refine (W1.out _).mono ?_); rintro e w' ⟨rfl, rfl⟩)
    | (go_at_call 24; (with_reducible refine (W2.out _).mono ?_); rintro e w' ⟨rfl, rfl⟩)
    | (go_at_call 24; (with_reducible refine (W3.out _).mono ?_); rintro e w' ⟨rfl, rfl⟩))
  go_ret
  exact ⟨rfl, rfl⟩
theorem eok_010f (x : Int) (s : Int) (hs : 0 < s) (w : World)
    (W1 : Hid (∀ W, Calls Tryd.prog 24 #[.int .u32 x, .int .i64 1] W fun e w' => e = .returned (.int .i64 0) ∧ W = w'))
    (W2 : Hid (∀ W, Calls Tryd.prog 24 #[.int .u32 x, .int .i64 2] W fun e w' => e = .returned (.int .i64 s) ∧ W = w'))
    (W3 : Hid (∀ W, Calls Tryd.prog 24 #[.int .u32 x, .int .i64 3] W fun e w' => e = .returned (.int .i64 0) ∧ W = w'))
    (V : Hid (∀ W, Calls Tryd.prog 25 #[.int .u32 x] W fun e w' => e = .returned (.bool false) ∧ W = w')) :
    Calls Tryd.prog 26 #[.int .u32 x] w fun e w' => e = .returned (.bool (okZ true false true false)) ∧ w = w' := by
  go_enter Tryd.func26, Tryd.ntmps26
  go_wp2_with (first
    | (go_at_call 25; (with_reducible refine (V.out _).mono ?_); rintro e w' ⟨rfl, rfl⟩)
    | (go_at_call 24; (with_reducible refine (W1.out _).mono ?_); rintro e w' ⟨rfl, rfl⟩)
    | (go_at_call 24; (with_reducible refine (W2.out _).mono ?_); rintro e w' ⟨rfl, rfl⟩)
    | (go_at_call 24; (with_reducible refine (W3.out _).mono ?_); rintro e w' ⟨rfl, rfl⟩))
  go_ret
  exact ⟨rfl, rfl⟩
theorem eok_010t (x : Int) (s : Int) (hs : 0 < s) (w : World)
    (W1 : Hid (∀ W, Calls Tryd.prog 24 #[.int .u32 x, .int .i64 1] W fun e w' => e = .returned (.int .i64 0) ∧ W = w'))
    (W2 : Hid (∀ W, Calls Tryd.prog 24 #[.int .u32 x, .int .i64 2] W fun e w' => e = .returned (.int .i64 s) ∧ W = w'))
    (W3 : Hid (∀ W, Calls Tryd.prog 24 #[.int .u32 x, .int .i64 3] W fun e w' => e = .returned (.int .i64 0) ∧ W = w'))
    (V : Hid (∀ W, Calls Tryd.prog 25 #[.int .u32 x] W fun e w' => e = .returned (.bool true) ∧ W = w')) :
    Calls Tryd.prog 26 #[.int .u32 x] w fun e w' => e = .returned (.bool (okZ true false true true)) ∧ w = w' := by
  go_enter Tryd.func26, Tryd.ntmps26
  go_wp2_with (first
    | (go_at_call 25; (with_reducible refine (V.out _).mono ?_); rintro e w' ⟨rfl, rfl⟩)
    | (go_at_call 24; (with_reducible refine (W1.out _).mono ?_); rintro e w' ⟨rfl, rfl⟩)
    | (go_at_call 24; (with_reducible refine (W2.out _).mono ?_); rintro e w' ⟨rfl, rfl⟩)
    | (go_at_call 24; (with_reducible refine (W3.out _).mono ?_); rintro e w' ⟨rfl, rfl⟩))
  go_ret
  exact ⟨rfl, rfl⟩
theorem eok_011f (x : Int) (s : Int) (hs : 0 < s) (t : Int) (ht : 0 < t) (w : World)
    (W1 : Hid (∀ W, Calls Tryd.prog 24 #[.int .u32 x, .int .i64 1] W fun e w' => e = .returned (.int .i64 0) ∧ W = w'))
    (W2 : Hid (∀ W, Calls Tryd.prog 24 #[.int .u32 x, .int .i64 2] W fun e w' => e = .returned (.int .i64 s) ∧ W = w'))
    (W3 : Hid (∀ W, Calls Tryd.prog 24 #[.int .u32 x, .int .i64 3] W fun e w' => e = .returned (.int .i64 t) ∧ W = w'))
    (V : Hid (∀ W, Calls Tryd.prog 25 #[.int .u32 x] W fun e w' => e = .returned (.bool false) ∧ W = w')) :
    Calls Tryd.prog 26 #[.int .u32 x] w fun e w' => e = .returned (.bool (okZ true false false false)) ∧ w = w' := by
  go_enter Tryd.func26, Tryd.ntmps26
  go_wp2_with (first
    | (go_at_call 25; (with_reducible refine (V.out _).mono ?_); rintro e w' ⟨rfl, rfl⟩)
    | (go_at_call 24; (with_reducible refine (W1.out _).mono ?_); rintro e w' ⟨rfl, rfl⟩)
    | (go_at_call 24; (with_reducible refine (W2.out _).mono ?_); rintro e w' ⟨rfl, rfl⟩)
    | (go_at_call 24; (with_reducible refine (W3.out _).mono ?_); rintro e w' ⟨rfl, rfl⟩))
  go_ret
  exact ⟨rfl, rfl⟩
theorem eok_011t (x : Int) (s : Int) (hs : 0 < s) (t : Int) (ht : 0 < t) (w : World)
    (W1 : Hid (∀ W, Calls Tryd.prog 24 #[.int .u32 x, .int .i64 1] W fun e w' => e = .returned (.int .i64 0) ∧ W = w'))
    (W2 : Hid (∀ W, Calls Tryd.prog 24 #[.int .u32 x, .int .i64 2] W fun e w' => e = .returned (.int .i64 s) ∧ W = w'))
    (W3 : Hid (∀ W, Calls Tryd.prog 24 #[.int .u32 x, .int .i64 3] W fun e w' => e = .returned (.int .i64 t) ∧ W = w'))
    (V : Hid (∀ W, Calls Tryd.prog 25 #[.int .u32 x] W fun e w' => e = .returned (.bool true) ∧ W = w')) :
    Calls Tryd.prog 26 #[.int .u32 x] w fun e w' => e = .returned (.bool (okZ true false false true)) ∧ w = w' := by
  go_enter Tryd.func26, Tryd.ntmps26
  go_wp2_with (first
    | (go_at_call 25; (with_reducible refine (V.out _).mono ?_); rintro e w' ⟨rfl, rfl⟩)
    | (go_at_call 24; (with_reducible refine (W1.out _).mono ?_); rintro e w' ⟨rfl, rfl⟩)
    | (go_at_call 24; (with_reducible refine (W2.out _).mono ?_); rintro e w' ⟨rfl, rfl⟩)
    | (go_at_call 24; (with_reducible refine (W3.out _).mono ?_); rintro e w' ⟨rfl, rfl⟩))
  go_ret
  exact ⟨rfl, rfl⟩
theorem eok_100f (x : Int) (p : Int) (hp : 0 < p) (w : World)
    (W1 : Hid (∀ W, Calls Tryd.prog 24 #[.int .u32 x, .int .i64 1] W fun e w' => e = .returned (.int .i64 p) ∧ W = w'))
    (W2 : Hid (∀ W, Calls Tryd.prog 24 #[.int .u32 x, .int .i64 2] W fun e w' => e = .returned (.int .i64 0) ∧ W = w'))
    (W3 : Hid (∀ W, Calls Tryd.prog 24 #[.int .u32 x, .int .i64 3] W fun e w' => e = .returned (.int .i64 0) ∧ W = w'))
    (V : Hid (∀ W, Calls Tryd.prog 25 #[.int .u32 x] W fun e w' => e = .returned (.bool false) ∧ W = w')) :
    Calls Tryd.prog 26 #[.int .u32 x] w fun e w' => e = .returned (.bool (okZ false true true false)) ∧ w = w' := by
  go_enter Tryd.func26, Tryd.ntmps26
  go_wp2_with (first
    | (go_at_call 25; (with_reducible refine (V.out _).mono ?_); rintro e w' ⟨rfl, rfl⟩)
    | (go_at_call 24; (with_reducible refine (W1.out _).mono ?_); rintro e w' ⟨rfl, rfl⟩)
    | (go_at_call 24; (with_reducible refine (W2.out _).mono ?_); rintro e w' ⟨rfl, rfl⟩)
    | (go_at_call 24; (with_reducible refine (W3.out _).mono ?_); rintro e w' ⟨rfl, rfl⟩))
  go_ret
  exact ⟨rfl, rfl⟩
theorem eok_100t (x : Int) (p : Int) (hp : 0 < p) (w : World)
    (W1 : Hid (∀ W, Calls Tryd.prog 24 #[.int .u32 x, .int .i64 1] W fun e w' => e = .returned (.int .i64 p) ∧ W = w'))
    (W2 : Hid (∀ W, Calls Tryd.prog 24 #[.int .u32 x, .int .i64 2] W fun e w' => e = .returned (.int .i64 0) ∧ W = w'))
    (W3 : Hid (∀ W, Calls Tryd.prog 24 #[.int .u32 x, .int .i64 3] W fun e w' => e = .returned (.int .i64 0) ∧ W = w'))
    (V : Hid (∀ W, Calls Tryd.prog 25 #[.int .u32 x] W fun e w' => e = .returned (.bool true) ∧ W = w')) :
    Calls Tryd.prog 26 #[.int .u32 x] w fun e w' => e = .returned (.bool (okZ false true true true)) ∧ w = w' := by
  go_enter Tryd.func26, Tryd.ntmps26
  go_wp2_with (first
    | (go_at_call 25; (with_reducible refine (V.out _).mono ?_); rintro e w' ⟨rfl, rfl⟩)
    | (go_at_call 24; (with_reducible refine (W1.out _).mono ?_); rintro e w' ⟨rfl, rfl⟩)
    | (go_at_call 24; (with_reducible refine (W2.out _).mono ?_); rintro e w' ⟨rfl, rfl⟩)
    | (go_at_call 24; (with_reducible refine (W3.out _).mono ?_); rintro e w' ⟨rfl, rfl⟩))
  go_ret
  exact ⟨rfl, rfl⟩
theorem eok_101f (x : Int) (p : Int) (hp : 0 < p) (t : Int) (ht : 0 < t) (w : World)
    (W1 : Hid (∀ W, Calls Tryd.prog 24 #[.int .u32 x, .int .i64 1] W fun e w' => e = .returned (.int .i64 p) ∧ W = w'))
    (W2 : Hid (∀ W, Calls Tryd.prog 24 #[.int .u32 x, .int .i64 2] W fun e w' => e = .returned (.int .i64 0) ∧ W = w'))
    (W3 : Hid (∀ W, Calls Tryd.prog 24 #[.int .u32 x, .int .i64 3] W fun e w' => e = .returned (.int .i64 t) ∧ W = w'))
    (V : Hid (∀ W, Calls Tryd.prog 25 #[.int .u32 x] W fun e w' => e = .returned (.bool false) ∧ W = w')) :
    Calls Tryd.prog 26 #[.int .u32 x] w fun e w' => e = .returned (.bool (okZ false true false false)) ∧ w = w' := by
  go_enter Tryd.func26, Tryd.ntmps26
  go_wp2_with (first
    | (go_at_call 25; (with_reducible refine (V.out _).mono ?_); rintro e w' ⟨rfl, rfl⟩)
    | (go_at_call 24; (with_reducible refine (W1.out _).mono ?_); rintro e w' ⟨rfl, rfl⟩)
    | (go_at_call 24; (with_reducible refine (W2.out _).mono ?_); rintro e w' ⟨rfl, rfl⟩)
    | (go_at_call 24; (with_reducible refine (W3.out _).mono ?_); rintro e w' ⟨rfl, rfl⟩))
  go_ret
  exact ⟨rfl, rfl⟩
theorem eok_101t (x : Int) (p : Int) (hp : 0 < p) (t : Int) (ht : 0 < t) (w : World)
    (W1 : Hid (∀ W, Calls Tryd.prog 24 #[.int .u32 x, .int .i64 1] W fun e w' => e = .returned (.int .i64 p) ∧ W = w'))
    (W2 : Hid (∀ W, Calls Tryd.prog 24 #[.int .u32 x, .int .i64 2] W fun e w' => e = .returned (.int .i64 0) ∧ W = w'))
    (W3 : Hid (∀ W, Calls Tryd.prog 24 #[.int .u32 x, .int .i64 3] W fun e w' => e = .returned (.int .i64 t) ∧ W = w'))
    (V : Hid (∀ W, Calls Tryd.prog 25 #[.int .u32 x] W fun e w' => e = .returned (.bool true) ∧ W = w')) :
    Calls Tryd.prog 26 #[.int .u32 x] w fun e w' => e = .returned (.bool (okZ false true false true)) ∧ w = w' := by
  go_enter Tryd.func26, Tryd.ntmps26
  go_wp2_with (first
    | (go_at_call 25; (with_reducible refine (V.out _).mono ?_); rintro e w' ⟨rfl, rfl⟩)
    | (go_at_call 24; (with_reducible refine (W1.out _).mono ?_); rintro e w' ⟨rfl, rfl⟩)
    | (go_at_call 24; (with_reducible refine (W2.out _).mono ?_); rintro e w' ⟨rfl, rfl⟩)
    | (go_at_call 24; (with_reducible refine (W3.out _).mono ?_); rintro e w' ⟨rfl, rfl⟩))
  go_ret
  exact ⟨rfl, rfl⟩
theorem eok_110f (x : Int) (p : Int) (hp : 0 < p) (s : Int) (hs : 0 < s) (w : World)
    (W1 : Hid (∀ W, Calls Tryd.prog 24 #[.int .u32 x, .int .i64 1] W fun e w' => e = .returned (.int .i64 p) ∧ W = w'))
    (W2 : Hid (∀ W, Calls Tryd.prog 24 #[.int .u32 x, .int .i64 2] W fun e w' => e = .returned (.int .i64 s) ∧ W = w'))
    (W3 : Hid (∀ W, Calls Tryd.prog 24 #[.int .u32 x, .int .i64 3] W fun e w' => e = .returned (.int .i64 0) ∧ W = w'))
    (V : Hid (∀ W, Calls Tryd.prog 25 #[.int .u32 x] W fun e w' => e = .returned (.bool false) ∧ W = w')) :
    Calls Tryd.prog 26 #[.int .u32 x] w fun e w' => e = .returned (.bool (okZ false false true false)) ∧ w = w' := by
  go_enter Tryd.func26, Tryd.ntmps26
  go_wp2_with (first
    | (go_at_call 25; (with_reducible refine (V.out _).mono ?_); rintro e w' ⟨rfl, rfl⟩)
    | (go_at_call 24; (with_reducible refine (W1.out _).mono ?_); rintro e w' ⟨rfl, rfl⟩)
    | (go_at_call 24; (with_reducible refine (W2.out _).mono ?_); rintro e w' ⟨rfl, rfl⟩)
    | (go_at_call 24; (with_reducible refine (W3.out _).mono ?_); rintro e w' ⟨rfl, rfl⟩))
  go_ret
  exact ⟨rfl, rfl⟩
theorem eok_110t (x : Int) (p : Int) (hp : 0 < p) (s : Int) (hs : 0 < s) (w : World)
    (W1 : Hid (∀ W, Calls Tryd.prog 24 #[.int .u32 x, .int .i64 1] W fun e w' => e = .returned (.int .i64 p) ∧ W = w'))
    (W2 : Hid (∀ W, Calls Tryd.prog 24 #[.int .u32 x, .int .i64 2] W fun e w' => e = .returned (.int .i64 s) ∧ W = w'))
    (W3 : Hid (∀ W, Calls Tryd.prog 24 #[.int .u32 x, .int .i64 3] W fun e w' => e = .returned (.int .i64 0) ∧ W = w'))
    (V : Hid (∀ W, Calls Tryd.prog 25 #[.int .u32 x] W fun e w' => e = .returned (.bool true) ∧ W = w')) :
    Calls Tryd.prog 26 #[.int .u32 x] w fun e w' => e = .returned (.bool (okZ false false true true)) ∧ w = w' := by
  go_enter Tryd.func26, Tryd.ntmps26
  go_wp2_with (first
    | (go_at_call 25; (with_reducible refine (V.out _).mono ?_); rintro e w' ⟨rfl, rfl⟩)
    | (go_at_call 24; (with_reducible refine (W1.out _).mono ?_); rintro e w' ⟨rfl, rfl⟩)
    | (go_at_call 24; (with_reducible refine (W2.out _).mono ?_); rintro e w' ⟨rfl, rfl⟩)
    | (go_at_call 24; (with_reducible refine (W3.out _).mono ?_); rintro e w' ⟨rfl, rfl⟩))
  go_ret
  exact ⟨rfl, rfl⟩
theorem eok_111f (x : Int) (p : Int) (hp : 0 < p) (s : Int) (hs : 0 < s) (t : Int) (ht : 0 < t) (w : World)
    (W1 : Hid (∀ W, Calls Tryd.prog 24 #[.int .u32 x, .int .i64 1] W fun e w' => e = .returned (.int .i64 p) ∧ W = w'))
    (W2 : Hid (∀ W, Calls Tryd.prog 24 #[.int .u32 x, .int .i64 2] W fun e w' => e = .returned (.int .i64 s) ∧ W = w'))
    (W3 : Hid (∀ W, Calls Tryd.prog 24 #[.int .u32 x, .int .i64 3] W fun e w' => e = .returned (.int .i64 t) ∧ W = w'))
    (V : Hid (∀ W, Calls Tryd.prog 25 #[.int .u32 x] W fun e w' => e = .returned (.bool false) ∧ W = w')) :
    Calls Tryd.prog 26 #[.int .u32 x] w fun e w' => e = .returned (.bool (okZ false false false false)) ∧ w = w' := by
  go_enter Tryd.func26, Tryd.ntmps26
  go_wp2_with (first
    | (go_at_call 25; (with_reducible refine (V.out _).mono ?_); rintro e w' ⟨rfl, rfl⟩)
    | (go_at_call 24; (with_reducible refine (W1.out _).mono ?_); rintro e w' ⟨rfl, rfl⟩)
    | (go_at_call 24; (with_reducible refine (W2.out _).mono ?_); rintro e w' ⟨rfl, rfl⟩)
    | (go_at_call 24; (with_reducible refine (W3.out _).mono ?_); rintro e w' ⟨rfl, rfl⟩))
  go_ret
  exact ⟨rfl, rfl⟩
theorem eok_111t (x : Int) (p : Int) (hp : 0 < p) (s : Int) (hs : 0 < s) (t : Int) (ht : 0 < t) (w : World)
    (W1 : Hid (∀ W, Calls Tryd.prog 24 #[.int .u32 x, .int .i64 1] W fun e w' => e = .returned (.int .i64 p) ∧ W = w'))
    (W2 : Hid (∀ W, Calls Tryd.prog 24 #[.int .u32 x, .int .i64 2] W fun e w' => e = .returned (.int .i64 s) ∧ W = w'))
    (W3 : Hid (∀ W, Calls Tryd.prog 24 #[.int .u32 x, .int .i64 3] W fun e w' => e = .returned (.int .i64 t) ∧ W = w'))
    (V : Hid (∀ W, Calls Tryd.prog 25 #[.int .u32 x] W fun e w' => e = .returned (.bool true) ∧ W = w')) :
    Calls Tryd.prog 26 #[.int .u32 x] w fun e w' => e = .returned (.bool (okZ false false false true)) ∧ w = w' := by
  go_enter Tryd.func26, Tryd.ntmps26
  go_wp2_with (first
    | (go_at_call 25; (with_reducible refine (V.out _).mono ?_); rintro e w' ⟨rfl, rfl⟩)
    | (go_at_call 24; (with_reducible refine (W1.out _).mono ?_); rintro e w' ⟨rfl, rfl⟩)
    | (go_at_call 24; (with_reducible refine (W2.out _).mono ?_); rintro e w' ⟨rfl, rfl⟩)
    | (go_at_call 24; (with_reducible refine (W3.out _).mono ?_); rintro e w' ⟨rfl, rfl⟩))
  go_ret
  exact ⟨rfl, rfl⟩
theorem rok_000f  (w : World) :
    Calls Tryd.prog 27 #[ev 0 0 0 false] w fun e w' => e = .returned (.bool (okZ true true true false)) ∧ Below w.heap.size w w' := by
  go_enter Tryd.func27, Tryd.ntmps27
  go_wp2
  go_ret
  exact ⟨rfl, (Below.refl _ _).alloc (Nat.le_refl _) _⟩
theorem rok_000t  (w : World) :
    Calls Tryd.prog 27 #[ev 0 0 0 true] w fun e w' => e = .returned (.bool (okZ true true true true)) ∧ Below w.heap.size w w' := by
  go_enter Tryd.func27, Tryd.ntmps27
  go_wp2
  go_ret
  exact ⟨rfl, (Below.refl _ _).alloc (Nat.le_refl _) _⟩
theorem rok_001f (t : Int) (ht : (t == 0) = false) (kt : (t != 0) = true) (w : World) :
    Calls Tryd.prog 27 #[ev 0 0 t false] w fun e w' => e = .returned (.bool (okZ true true false false)) ∧ Below w.heap.size w w' := by
  go_enter Tryd.func27, Tryd.ntmps27
  go_wp2
  go_ret
  exact ⟨rfl, (Below.refl _ _).alloc (Nat.le_refl _) _⟩
theorem rok_001t (t : Int) (ht : (t == 0) = false) (kt : (t != 0) = true) (w : World) :
    Calls Tryd.prog 27 #[ev 0 0 t true] w fun e w' => e = .returned (.bool (okZ true true false true)) ∧ Below w.heap.size w w' := by
  go_enter Tryd.func27, Tryd.ntmps27
  go_wp2
  go_ret
  exact ⟨rfl, (Below.refl _ _).alloc (Nat.le_refl _) _⟩
theorem rok_010f (s : Int) (hs : (s == 0) = false) (ks : (s != 0) = true) (w : World) :
    Calls Tryd.prog 27 #[ev 0 s 0 false] w fun e w' => e = .returned (.bool (okZ true false true false)) ∧ Below w.heap.size w w' := by
  go_enter Tryd.func27, Tryd.ntmps27
  go_wp2
  go_ret
  exact ⟨rfl, (Below.refl _ _).alloc (Nat.le_refl _) _⟩
theorem rok_010t (s : Int) (hs : (s == 0) = false) (ks : (s != 0) = true) (w : World) :
    Calls Tryd.prog 27 #[ev 0 s 0 true] w fun e w' => e = .returned (.bool (okZ true false true true)) ∧ Below w.heap.size w w' := by
  go_enter Tryd.func27, Tryd.ntmps27
  go_wp2
  go_ret
  exact ⟨rfl, (Below.refl _ _).alloc (Nat.le_refl _) _⟩
theorem rok_011f (s : Int) (hs : (s == 0) = false) (ks : (s != 0) = true) (t : Int) (ht : (t == 0) = false) (kt : (t != 0) = true) (w : World) :
    Calls Tryd.prog 27 #[ev 0 s t false] w fun e w' => e = .returned (.bool (okZ true false false false)) ∧ Below w.heap.size w w' := by
  go_enter Tryd.func27, Tryd.ntmps27
  go_wp2
  go_ret
  exact ⟨rfl, (Below.refl _ _).alloc (Nat.le_refl _) _⟩
theorem rok_011t (s : Int) (hs : (s == 0) = false) (ks : (s != 0) = true) (t : Int) (ht : (t == 0) = false) (kt : (t != 0) = true) (w : World) :
    Calls Tryd.prog 27 #[ev 0 s t true] w fun e w' => e = .returned (.bool (okZ true false false true)) ∧ Below w.heap.size w w' := by
  go_enter Tryd.func27, Tryd.ntmps27
  go_wp2
  go_ret
  exact ⟨rfl, (Below.refl _ _).alloc (Nat.le_refl _) _⟩
theorem rok_100f (p : Int) (hp : (p == 0) = false) (kp : (p != 0) = true) (w : World) :
    Calls Tryd.prog 27 #[ev p 0 0 false] w fun e w' => e = .returned (.bool (okZ false true true false)) ∧ Below w.heap.size w w' := by
  go_enter Tryd.func27, Tryd.ntmps27
  go_wp2
  go_ret
  exact ⟨rfl, (Below.refl _ _).alloc (Nat.le_refl _) _⟩
theorem rok_100t (p : Int) (hp : (p == 0) = false) (kp : (p != 0) = true) (w : World) :
    Calls Tryd.prog 27 #[ev p 0 0 true] w fun e w' => e = .returned (.bool (okZ false true true true)) ∧ Below w.heap.size w w' := by
  go_enter Tryd.func27, Tryd.ntmps27
  go_wp2
  go_ret
  exact ⟨rfl, (Below.refl _ _).alloc (Nat.le_refl _) _⟩
theorem rok_101f (p : Int) (hp : (p == 0) = false) (kp : (p != 0) = true) (t : Int) (ht : (t == 0) = false) (kt : (t != 0) = true) (w : World) :
    Calls Tryd.prog 27 #[ev p 0 t false] w fun e w' => e = .returned (.bool (okZ false true false false)) ∧ Below w.heap.size w w' := by
  go_enter Tryd.func27, Tryd.ntmps27
  go_wp2
  go_ret
  exact ⟨rfl, (Below.refl _ _).alloc (Nat.le_refl _) _⟩
theorem rok_101t (p : Int) (hp : (p == 0) = false) (kp : (p != 0) = true) (t : Int) (ht : (t == 0) = false) (kt : (t != 0) = true) (w : World) :
    Calls Tryd.prog 27 #[ev p 0 t true] w fun e w' => e = .returned (.bool (okZ false true false true)) ∧ Below w.heap.size w w' := by
  go_enter Tryd.func27, Tryd.ntmps27
  go_wp2
  go_ret
  exact ⟨rfl, (Below.refl _ _).alloc (Nat.le_refl _) _⟩
theorem rok_110f (p : Int) (hp : (p == 0) = false) (kp : (p != 0) = true) (s : Int) (hs : (s == 0) = false) (ks : (s != 0) = true) (w : World) :
    Calls Tryd.prog 27 #[ev p s 0 false] w fun e w' => e = .returned (.bool (okZ false false true false)) ∧ Below w.heap.size w w' := by
  go_enter Tryd.func27, Tryd.ntmps27
  go_wp2
  go_ret
  exact ⟨rfl, (Below.refl _ _).alloc (Nat.le_refl _) _⟩
theorem rok_110t (p : Int) (hp : (p == 0) = false) (kp : (p != 0) = true) (s : Int) (hs : (s == 0) = false) (ks : (s != 0) = true) (w : World) :
    Calls Tryd.prog 27 #[ev p s 0 true] w fun e w' => e = .returned (.bool (okZ false false true true)) ∧ Below w.heap.size w w' := by
  go_enter Tryd.func27, Tryd.ntmps27
  go_wp2
  go_ret
  exact ⟨rfl, (Below.refl _ _).alloc (Nat.le_refl _) _⟩
theorem rok_111f (p : Int) (hp : (p == 0) = false) (kp : (p != 0) = true) (s : Int) (hs : (s == 0) = false) (ks : (s != 0) = true) (t : Int) (ht : (t == 0) = false) (kt : (t != 0) = true) (w : World) :
    Calls Tryd.prog 27 #[ev p s t false] w fun e w' => e = .returned (.bool (okZ false false false false)) ∧ Below w.heap.size w w' := by
  go_enter Tryd.func27, Tryd.ntmps27
  go_wp2
  go_ret
  exact ⟨rfl, (Below.refl _ _).alloc (Nat.le_refl _) _⟩
theorem rok_111t (p : Int) (hp : (p == 0) = false) (kp : (p != 0) = true) (s : Int) (hs : (s == 0) = false) (ks : (s != 0) = true) (t : Int) (ht : (t == 0) = false) (kt : (t != 0) = true) (w : World) :
    Calls Tryd.prog 27 #[ev p s t true] w fun e w' => e = .returned (.bool (okZ false false false true)) ∧ Below w.heap.size w w' := by
  go_enter Tryd.func27, Tryd.ntmps27
  go_wp2
  go_ret
  exact ⟨rfl, (Below.refl _ _).alloc (Nat.le_refl _) _⟩
end Go.Proofs.YtbghbfgbpdppeaaDoor
