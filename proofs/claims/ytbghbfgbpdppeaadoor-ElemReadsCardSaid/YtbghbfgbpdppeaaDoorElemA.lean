
/- Weights in a word: where they stand, reading and changing one, whether it is variable; the document's element of a word and its word: what each function returns. -/
import Derived.Test.YtbghbfgbpdppeaaDoorElemN
namespace Go.Proofs.YtbghbfgbpdppeaaDoor
open Go.ChangeShapes Go.WideShapes Go.ChangeAt Go.RowKit
set_option linter.unusedVariables false

theorem field_1 (w : World) : Calls Tryd.prog 46 #[.int .i64 1] w fun e w' => e = .returned (.tuple #[.int .i64 16, .int .i64 16]) ∧ w = w' := by
  go_enter Tryd.func46, Tryd.ntmps46
  go_wp2
  go_ret2
  exact ⟨rfl, rfl⟩
theorem field_2 (w : World) : Calls Tryd.prog 46 #[.int .i64 2] w fun e w' => e = .returned (.tuple #[.int .i64 8, .int .i64 8]) ∧ w = w' := by
  go_enter Tryd.func46, Tryd.ntmps46
  go_wp2
  go_ret2
  exact ⟨rfl, rfl⟩
theorem field_3 (w : World) : Calls Tryd.prog 46 #[.int .i64 3] w fun e w' => e = .returned (.tuple #[.int .i64 1, .int .i64 7]) ∧ w = w' := by
  go_enter Tryd.func46, Tryd.ntmps46
  go_wp2
  go_ret2
  exact ⟨rfl, rfl⟩
theorem field_0 (l : Int) (h1 : (l == 1) = false) (h2 : (l == 2) = false) (h3 : (l == 3) = false) (w : World) : Calls Tryd.prog 46 #[.int .i64 l] w fun e w' => e = .returned (.tuple #[.int .i64 0, .int .i64 0]) ∧ w = w' := by
  go_enter Tryd.func46, Tryd.ntmps46
  go_wp2
  go_ret2
  exact ⟨rfl, rfl⟩
def wtV (x : Nat) (l : Int) : Nat := if l = 1 then wP x else if l = 2 then wS x else if l = 3 then wT x else 0
theorem gv1 {x : Nat} (h : x < 4294967296) : getV x 16 16 = wP x := by
  rw [← get16 h]; rfl
theorem gv2 (x : Nat) : getV x 8 8 = wS x := by
  rw [← get8 x]; rfl
theorem gv3 (x : Nat) : getV x 1 7 = wT x := by
  rw [← get7 x]; rfl
theorem gv0 (x : Nat) : getV x 0 0 = 0 := by
  unfold getV cnt
  rw [if_neg (by omega), get_zero]
theorem weight_any (x : Nat) (l : Int) (w : World) (hx : x < 4294967296) : Calls Tryd.prog 24 #[.int .u32 x, .int .i64 l] w fun e w' => e = .returned (.int .i64 (wtV x l : Nat)) ∧ w = w' := by
  have hxi : (x : Int) < 4294967296 := by omega
  have hP := wP_lt hx
  have hS := wS_lt x
  have hT := wT_lt x
  by_cases h1 : l = 1
  · subst h1
    have C := fun W => get_any x 16 16 W (by omega)
    have e : wtV x 1 = wP x := rfl
    rw [gv1 hx] at C
    rw [e]
    replace C := Lib.hid C
    clear e
    generalize wP x = r at *
    go_enter Tryd.func24, Tryd.ntmps24
    go_wp2_with (first | (go_at_call 46; (with_reducible refine (field_1 _).mono ?_); rintro e w' ⟨rfl, rfl⟩) | (go_at_call 48; (with_reducible refine (C.out _).mono ?_); rintro e w' ⟨rfl, rfl⟩))
    go_ret
    exact ⟨rfl, rfl⟩
  by_cases h2 : l = 2
  · subst h2
    have C := fun W => get_any x 8 8 W (by omega)
    have e : wtV x 2 = wS x := rfl
    rw [gv2] at C
    rw [e]
    replace C := Lib.hid C
    clear e
    generalize wS x = r at *
    go_enter Tryd.func24, Tryd.ntmps24
    go_wp2_with (first | (go_at_call 46; (with_reducible refine (field_2 _).mono ?_); rintro e w' ⟨rfl, rfl⟩) | (go_at_call 48; (with_reducible refine (C.out _).mono ?_); rintro e w' ⟨rfl, rfl⟩))
    go_ret
    exact ⟨rfl, rfl⟩
  by_cases h3 : l = 3
  · subst h3
    have C := fun W => get_any x 1 7 W (by omega)
    have e : wtV x 3 = wT x := rfl
    rw [gv3] at C
    rw [e]
    replace C := Lib.hid C
    clear e
    generalize wT x = r at *
    go_enter Tryd.func24, Tryd.ntmps24
    go_wp2_with (first | (go_at_call 46; (with_reducible refine (field_3 _).mono ?_); rintro e w' ⟨rfl, rfl⟩) | (go_at_call 48; (with_reducible refine (C.out _).mono ?_); rintro e w' ⟨rfl, rfl⟩))
    go_ret
    exact ⟨rfl, rfl⟩
  have C := fun W => get_any x 0 0 W (by omega)
  have e : wtV x l = 0 := by unfold wtV; rw [if_neg h1, if_neg h2, if_neg h3]
  rw [gv0] at C
  rw [e]
  have F := Lib.hid (fun W => field_0 l (by simpa using h1) (by simpa using h2) (by simpa using h3) W)
  replace C := Lib.hid C
  clear e h1 h2 h3
  go_enter Tryd.func24, Tryd.ntmps24
  go_wp2_with (first | (go_at_call 46; (with_reducible refine (F.out _).mono ?_); rintro e w' ⟨rfl, rfl⟩) | (go_at_call 48; (with_reducible refine (C.out _).mono ?_); rintro e w' ⟨rfl, rfl⟩))
  go_ret
  exact ⟨rfl, rfl⟩

theorem and1_u32 (x : Nat) (hx : x < 4294967296) : bits .and .u32 (x : Int) 1 = ((x % 2 : Nat) : Int) := by
  have h := u32_and_nat x 1 hx (by decide)
  have e : x &&& 1 = x % 2 := Nat.and_one_is_mod x
  rw [e] at h
  exact h
theorem variable_any (x : Nat) (w : World) (hx : x < 4294967296) : Calls Tryd.prog 25 #[.int .u32 x] w fun e w' => e = .returned (.bool (wV x)) ∧ w = w' := by
  have h := and1_u32 x hx
  have e : wV x = decide ((0 : Int) < bits .and .u32 (x : Int) 1) := by
    rw [h]
    unfold wV
    rw [Bool.eq_iff_iff, decide_eq_true_eq, decide_eq_true_eq]
    omega
  rw [e]
  clear e h
  go_enter Tryd.func25, Tryd.ntmps25
  go_wp2
  go_ret
  exact ⟨rfl, rfl⟩
end Go.Proofs.YtbghbfgbpdppeaaDoor
