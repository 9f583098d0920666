
/- Whether the weights of a word go together: the program and the document of any word. -/
import Derived.Test.YtbghbfgbpdppeaaDoorElemJ
namespace Go.Proofs.YtbghbfgbpdppeaaDoor
open Go.ChangeShapes Go.WideShapes Go.ChangeAt Go.RowKit
set_option linter.unusedVariables false

/-- whether the weights of a word go together -/
def okW (x : Nat) : Bool := okZ (wP x == 0) (wS x == 0) (wT x == 0) (wV x)
theorem eok_any (x : Nat) (w : World) (hx : x < 4294967296) :
    Calls Tryd.prog 26 #[.int .u32 x] w fun e w' => e = .returned (.bool (okW x)) ∧ w = w' := by
  have W1 : ∀ W, Calls Tryd.prog 24 #[.int .u32 x, .int .i64 1] W fun e w' => e = .returned (.int .i64 (wP x : Nat)) ∧ W = w' := fun W => weight_any x 1 W hx
  have W2 : ∀ W, Calls Tryd.prog 24 #[.int .u32 x, .int .i64 2] W fun e w' => e = .returned (.int .i64 (wS x : Nat)) ∧ W = w' := fun W => weight_any x 2 W hx
  have W3 : ∀ W, Calls Tryd.prog 24 #[.int .u32 x, .int .i64 3] W fun e w' => e = .returned (.int .i64 (wT x : Nat)) ∧ W = w' := fun W => weight_any x 3 W hx
  have V : ∀ W, Calls Tryd.prog 25 #[.int .u32 x] W fun e w' => e = .returned (.bool (wV x)) ∧ W = w' := fun W => variable_any x W hx
  unfold okW
  generalize wP x = p at *
  generalize wS x = s at *
  generalize wT x = t at *
  generalize wV x = v at *
  have hp := Nat.eq_zero_or_pos p
  have hs := Nat.eq_zero_or_pos s
  have ht := Nat.eq_zero_or_pos t
  rcases hp with rfl | hp <;> rcases hs with rfl | hs <;> rcases ht with rfl | ht <;> cases v
  · have h := eok_000f (x : Int) w (Lib.hid W1) (Lib.hid W2) (Lib.hid W3) (Lib.hid V)
    exact h
  · have h := eok_000t (x : Int) w (Lib.hid W1) (Lib.hid W2) (Lib.hid W3) (Lib.hid V)
    exact h
  · have h := eok_001f (x : Int) (t : Int) (by omega) w (Lib.hid W1) (Lib.hid W2) (Lib.hid W3) (Lib.hid V)
    rw [show (t == 0) = false by simp; omega]
    exact h
  · have h := eok_001t (x : Int) (t : Int) (by omega) w (Lib.hid W1) (Lib.hid W2) (Lib.hid W3) (Lib.hid V)
    rw [show (t == 0) = false by simp; omega]
    exact h
  · have h := eok_010f (x : Int) (s : Int) (by omega) w (Lib.hid W1) (Lib.hid W2) (Lib.hid W3) (Lib.hid V)
    rw [show (s == 0) = false by simp; omega]
    exact h
  · have h := eok_010t (x : Int) (s : Int) (by omega) w (Lib.hid W1) (Lib.hid W2) (Lib.hid W3) (Lib.hid V)
    rw [show (s == 0) = false by simp; omega]
    exact h
  · have h := eok_011f (x : Int) (s : Int) (by omega) (t : Int) (by omega) w (Lib.hid W1) (Lib.hid W2) (Lib.hid W3) (Lib.hid V)
    rw [show (s == 0) = false by simp; omega, show (t == 0) = false by simp; omega]
    exact h
  · have h := eok_011t (x : Int) (s : Int) (by omega) (t : Int) (by omega) w (Lib.hid W1) (Lib.hid W2) (Lib.hid W3) (Lib.hid V)
    rw [show (s == 0) = false by simp; omega, show (t == 0) = false by simp; omega]
    exact h
  · have h := eok_100f (x : Int) (p : Int) (by omega) w (Lib.hid W1) (Lib.hid W2) (Lib.hid W3) (Lib.hid V)
    rw [show (p == 0) = false by simp; omega]
    exact h
  · have h := eok_100t (x : Int) (p : Int) (by omega) w (Lib.hid W1) (Lib.hid W2) (Lib.hid W3) (Lib.hid V)
    rw [show (p == 0) = false by simp; omega]
    exact h
  · have h := eok_101f (x : Int) (p : Int) (by omega) (t : Int) (by omega) w (Lib.hid W1) (Lib.hid W2) (Lib.hid W3) (Lib.hid V)
    rw [show (p == 0) = false by simp; omega, show (t == 0) = false by simp; omega]
    exact h
  · have h := eok_101t (x : Int) (p : Int) (by omega) (t : Int) (by omega) w (Lib.hid W1) (Lib.hid W2) (Lib.hid W3) (Lib.hid V)
    rw [show (p == 0) = false by simp; omega, show (t == 0) = false by simp; omega]
    exact h
  · have h := eok_110f (x : Int) (p : Int) (by omega) (s : Int) (by omega) w (Lib.hid W1) (Lib.hid W2) (Lib.hid W3) (Lib.hid V)
    rw [show (p == 0) = false by simp; omega, show (s == 0) = false by simp; omega]
    exact h
  · have h := eok_110t (x : Int) (p : Int) (by omega) (s : Int) (by omega) w (Lib.hid W1) (Lib.hid W2) (Lib.hid W3) (Lib.hid V)
    rw [show (p == 0) = false by simp; omega, show (s == 0) = false by simp; omega]
    exact h
  · have h := eok_111f (x : Int) (p : Int) (by omega) (s : Int) (by omega) (t : Int) (by omega) w (Lib.hid W1) (Lib.hid W2) (Lib.hid W3) (Lib.hid V)
    rw [show (p == 0) = false by simp; omega, show (s == 0) = false by simp; omega, show (t == 0) = false by simp; omega]
    exact h
  · have h := eok_111t (x : Int) (p : Int) (by omega) (s : Int) (by omega) (t : Int) (by omega) w (Lib.hid W1) (Lib.hid W2) (Lib.hid W3) (Lib.hid V)
    rw [show (p == 0) = false by simp; omega, show (s == 0) = false by simp; omega, show (t == 0) = false by simp; omega]
    exact h
theorem rok_any (x : Nat) (w : World) :
    Calls Tryd.prog 27 #[ev (wP x) (wS x) (wT x) (wV x)] w fun e w' => e = .returned (.bool (okW x)) ∧ Below w.heap.size w w' := by
  unfold okW
  generalize wP x = p at *
  generalize wS x = s at *
  generalize wT x = t at *
  generalize wV x = v at *
  have hp := Nat.eq_zero_or_pos p
  have hs := Nat.eq_zero_or_pos s
  have ht := Nat.eq_zero_or_pos t
  rcases hp with rfl | hp <;> rcases hs with rfl | hs <;> rcases ht with rfl | ht <;> cases v
  · have h := rok_000f w
    exact h
  · have h := rok_000t w
    exact h
  · have h := rok_001f (t : Int) (by simp; omega) (by simp; omega) w
    rw [show (t == 0) = false by simp; omega]
    exact h
  · have h := rok_001t (t : Int) (by simp; omega) (by simp; omega) w
    rw [show (t == 0) = false by simp; omega]
    exact h
  · have h := rok_010f (s : Int) (by simp; omega) (by simp; omega) w
    rw [show (s == 0) = false by simp; omega]
    exact h
  · have h := rok_010t (s : Int) (by simp; omega) (by simp; omega) w
    rw [show (s == 0) = false by simp; omega]
    exact h
  · have h := rok_011f (s : Int) (by simp; omega) (by simp; omega) (t : Int) (by simp; omega) (by simp; omega) w
    rw [show (s == 0) = false by simp; omega, show (t == 0) = false by simp; omega]
    exact h
  · have h := rok_011t (s : Int) (by simp; omega) (by simp; omega) (t : Int) (by simp; omega) (by simp; omega) w
    rw [show (s == 0) = false by simp; omega, show (t == 0) = false by simp; omega]
    exact h
  · have h := rok_100f (p : Int) (by simp; omega) (by simp; omega) w
    rw [show (p == 0) = false by simp; omega]
    exact h
  · have h := rok_100t (p : Int) (by simp; omega) (by simp; omega) w
    rw [show (p == 0) = false by simp; omega]
    exact h
  · have h := rok_101f (p : Int) (by simp; omega) (by simp; omega) (t : Int) (by simp; omega) (by simp; omega) w
    rw [show (p == 0) = false by simp; omega, show (t == 0) = false by simp; omega]
    exact h
  · have h := rok_101t (p : Int) (by simp; omega) (by simp; omega) (t : Int) (by simp; omega) (by simp; omega) w
    rw [show (p == 0) = false by simp; omega, show (t == 0) = false by simp; omega]
    exact h
  · have h := rok_110f (p : Int) (by simp; omega) (by simp; omega) (s : Int) (by simp; omega) (by simp; omega) w
    rw [show (p == 0) = false by simp; omega, show (s == 0) = false by simp; omega]
    exact h
  · have h := rok_110t (p : Int) (by simp; omega) (by simp; omega) (s : Int) (by simp; omega) (by simp; omega) w
    rw [show (p == 0) = false by simp; omega, show (s == 0) = false by simp; omega]
    exact h
  · have h := rok_111f (p : Int) (by simp; omega) (by simp; omega) (s : Int) (by simp; omega) (by simp; omega) (t : Int) (by simp; omega) (by simp; omega) w
    rw [show (p == 0) = false by simp; omega, show (s == 0) = false by simp; omega, show (t == 0) = false by simp; omega]
    exact h
  · have h := rok_111t (p : Int) (by simp; omega) (by simp; omega) (s : Int) (by simp; omega) (by simp; omega) (t : Int) (by simp; omega) (by simp; omega) w
    rw [show (p == 0) = false by simp; omega, show (s == 0) = false by simp; omega, show (t == 0) = false by simp; omega]
    exact h
end Go.Proofs.YtbghbfgbpdppeaaDoor
