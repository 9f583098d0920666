
/- elem.Make of any weights: what it returns; where one does not fit. -/
import Derived.Test.YtbghbfgbpdppeaaDoorElemI
namespace Go.Proofs.YtbghbfgbpdppeaaDoor
open Go.ChangeShapes Go.WideShapes Go.ChangeAt Go.RowKit
set_option linter.unusedVariables false

theorem ixa (a b c : Int) (W : World) : (Instr.index 89 (.agg #[.int .i64 a, .int .i64 b, .int .i64 c]) (.int .i64 0)).run Tryd.prog W = .ok (.int .i64 a) W := by kernel_rfl
theorem ixb (a b c : Int) (W : World) : (Instr.index 89 (.agg #[.int .i64 a, .int .i64 b, .int .i64 c]) (.int .i64 1)).run Tryd.prog W = .ok (.int .i64 b) W := by kernel_rfl
theorem ixc (a b c : Int) (W : World) : (Instr.index 89 (.agg #[.int .i64 a, .int .i64 b, .int .i64 c]) (.int .i64 2)).run Tryd.prog W = .ok (.int .i64 c) W := by kernel_rfl
set_option maxRecDepth 100000 in
theorem makeI_f (p s t m1 m2 m3 : Int) (w : World) (p0 : 0 ≤ p) (p1 : p ≤ 65535) (s0 : 0 ≤ s) (s1 : s ≤ 255) (t0 : 0 ≤ t) (t1 : t ≤ 127) 
    (U1 : Hid (∀ W, Calls Tryd.prog 19 #[.int .u32 0, .int .i64 1, .int .i64 p] W fun e w' => e = .returned (.int .u32 m1) ∧ W = w'))
    (U2 : Hid (∀ W, Calls Tryd.prog 19 #[.int .u32 m1, .int .i64 2, .int .i64 s] W fun e w' => e = .returned (.int .u32 m2) ∧ W = w'))
    (U3 : Hid (∀ W, Calls Tryd.prog 19 #[.int .u32 m2, .int .i64 3, .int .i64 t] W fun e w' => e = .returned (.int .u32 m3) ∧ W = w'))
 :
    Calls Tryd.prog 23 #[.int .i64 p, .int .i64 s, .int .i64 t, .bool false] w fun e w' => e = .returned (.tuple #[.int .u32 m3, .int .i64 0]) ∧ w = w' := by
  have F1 := Lib.hid (fun W => field_1 W)
  have i0 := ixa p s t
  have F2 := Lib.hid (fun W => field_2 W)
  have i1 := ixb p s t
  have F3 := Lib.hid (fun W => field_3 W)
  have i2 := ixc p s t
  go_enter Tryd.func23, Tryd.ntmps23
  go_wp2
  go_loop [10, 19] (fun e i => (e = .int .u32 0 ∧ i = .int .i64 0) ∨ (e = .int .u32 m1 ∧ i = .int .i64 1) ∨ (e = .int .u32 m2 ∧ i = .int .i64 2) ∨ (e = .int .u32 m3 ∧ i = .int .i64 3)) (fun _ i => 3 - (intOf i).toNat)
  case atStart => exact Or.inl (⟨rfl, rfl⟩)
  case round =>
    rcases hrel with ⟨rfl, rfl⟩ | ⟨rfl, rfl⟩ | ⟨rfl, rfl⟩ | ⟨rfl, rfl⟩
    · go_wp2_with (first | (go_at_call 46; (with_reducible refine (F1.out _).mono ?_); rintro e w' ⟨rfl, rfl⟩) | (go_at_call 19; (with_reducible refine (U1.out _).mono ?_); rintro e w' ⟨rfl, rfl⟩))
      go_round
      case rel => exact Or.inr (Or.inl (⟨rfl, by go_num⟩))
      case measure => simp [intOf]
    · go_wp2_with (first | (go_at_call 46; (with_reducible refine (F2.out _).mono ?_); rintro e w' ⟨rfl, rfl⟩) | (go_at_call 19; (with_reducible refine (U2.out _).mono ?_); rintro e w' ⟨rfl, rfl⟩))
      go_round
      case rel => exact Or.inr (Or.inr (Or.inl (⟨rfl, by go_num⟩)))
      case measure => simp [intOf]
    · go_wp2_with (first | (go_at_call 46; (with_reducible refine (F3.out _).mono ?_); rintro e w' ⟨rfl, rfl⟩) | (go_at_call 19; (with_reducible refine (U3.out _).mono ?_); rintro e w' ⟨rfl, rfl⟩))
      go_round
      case rel => exact Or.inr (Or.inr (Or.inr (⟨rfl, by go_num⟩)))
      case measure => simp [intOf]
    · go_wp2
      go_ret2
      exact ⟨rfl, rfl⟩
set_option maxRecDepth 100000 in
theorem makeI_t (p s t m1 m2 m3 : Int) (w : World) (p0 : 0 ≤ p) (p1 : p ≤ 65535) (s0 : 0 ≤ s) (s1 : s ≤ 255) (t0 : 0 ≤ t) (t1 : t ≤ 127) (m4 : Int) (O : bits .or .u32 m3 1 = m4)
    (U1 : Hid (∀ W, Calls Tryd.prog 19 #[.int .u32 0, .int .i64 1, .int .i64 p] W fun e w' => e = .returned (.int .u32 m1) ∧ W = w'))
    (U2 : Hid (∀ W, Calls Tryd.prog 19 #[.int .u32 m1, .int .i64 2, .int .i64 s] W fun e w' => e = .returned (.int .u32 m2) ∧ W = w'))
    (U3 : Hid (∀ W, Calls Tryd.prog 19 #[.int .u32 m2, .int .i64 3, .int .i64 t] W fun e w' => e = .returned (.int .u32 m3) ∧ W = w'))
 :
    Calls Tryd.prog 23 #[.int .i64 p, .int .i64 s, .int .i64 t, .bool true] w fun e w' => e = .returned (.tuple #[.int .u32 m4, .int .i64 0]) ∧ w = w' := by
  have F1 := Lib.hid (fun W => field_1 W)
  have i0 := ixa p s t
  have F2 := Lib.hid (fun W => field_2 W)
  have i1 := ixb p s t
  have F3 := Lib.hid (fun W => field_3 W)
  have i2 := ixc p s t
  go_enter Tryd.func23, Tryd.ntmps23
  go_wp2
  go_loop [10, 19] (fun e i => (e = .int .u32 0 ∧ i = .int .i64 0) ∨ (e = .int .u32 m1 ∧ i = .int .i64 1) ∨ (e = .int .u32 m2 ∧ i = .int .i64 2) ∨ (e = .int .u32 m3 ∧ i = .int .i64 3)) (fun _ i => 3 - (intOf i).toNat)
  case atStart => exact Or.inl (⟨rfl, rfl⟩)
  case round =>
    rcases hrel with ⟨rfl, rfl⟩ | ⟨rfl, rfl⟩ | ⟨rfl, rfl⟩ | ⟨rfl, rfl⟩
    · go_wp2_with (first | (go_at_call 46; (with_reducible refine (F1.out _).mono ?_); rintro e w' ⟨rfl, rfl⟩) | (go_at_call 19; (with_reducible refine (U1.out _).mono ?_); rintro e w' ⟨rfl, rfl⟩))
      go_round
      case rel => exact Or.inr (Or.inl (⟨rfl, by go_num⟩))
      case measure => simp [intOf]
    · go_wp2_with (first | (go_at_call 46; (with_reducible refine (F2.out _).mono ?_); rintro e w' ⟨rfl, rfl⟩) | (go_at_call 19; (with_reducible refine (U2.out _).mono ?_); rintro e w' ⟨rfl, rfl⟩))
      go_round
      case rel => exact Or.inr (Or.inr (Or.inl (⟨rfl, by go_num⟩)))
      case measure => simp [intOf]
    · go_wp2_with (first | (go_at_call 46; (with_reducible refine (F3.out _).mono ?_); rintro e w' ⟨rfl, rfl⟩) | (go_at_call 19; (with_reducible refine (U3.out _).mono ?_); rintro e w' ⟨rfl, rfl⟩))
      go_round
      case rel => exact Or.inr (Or.inr (Or.inr (⟨rfl, by go_num⟩)))
      case measure => simp [intOf]
    · go_wp2
      go_ret2
      exact ⟨rfl, rfl⟩
set_option maxRecDepth 100000 in
theorem makeI_lo0 (p s t  : Int) (w : World) (v : Bool) (bad : p < 0)
 :
    Calls Tryd.prog 23 #[.int .i64 p, .int .i64 s, .int .i64 t, .bool v] w fun e w' => e = .returned (.tuple #[.int .u32 0, .int .i64 1]) ∧ w = w' := by
  have F1 := Lib.hid (fun W => field_1 W)
  have i0 := ixa p s t
  go_enter Tryd.func23, Tryd.ntmps23
  go_wp2
  go_loop [10, 19] (fun e i => (e = .int .u32 0 ∧ i = .int .i64 0)) (fun _ i => 3 - (intOf i).toNat)
  case atStart => exact ⟨rfl, rfl⟩
  case round =>
    obtain ⟨rfl, rfl⟩ := hrel
    go_wp2_with (go_at_call 46; (with_reducible refine (F1.out _).mono ?_); rintro e w' ⟨rfl, rfl⟩)
    go_ret2
    exact ⟨rfl, rfl⟩
set_option maxRecDepth 100000 in
theorem makeI_hi0 (p s t  : Int) (w : World) (v : Bool) (lo : 0 ≤ p) (bad : ¬ p ≤ 65535)
 :
    Calls Tryd.prog 23 #[.int .i64 p, .int .i64 s, .int .i64 t, .bool v] w fun e w' => e = .returned (.tuple #[.int .u32 0, .int .i64 1]) ∧ w = w' := by
  have F1 := Lib.hid (fun W => field_1 W)
  have i0 := ixa p s t
  go_enter Tryd.func23, Tryd.ntmps23
  go_wp2
  go_loop [10, 19] (fun e i => (e = .int .u32 0 ∧ i = .int .i64 0)) (fun _ i => 3 - (intOf i).toNat)
  case atStart => exact ⟨rfl, rfl⟩
  case round =>
    obtain ⟨rfl, rfl⟩ := hrel
    go_wp2_with (go_at_call 46; (with_reducible refine (F1.out _).mono ?_); rintro e w' ⟨rfl, rfl⟩)
    go_ret2
    exact ⟨rfl, rfl⟩
set_option maxRecDepth 100000 in
theorem makeI_lo1 (p s t m1 : Int) (w : World) (p0 : 0 ≤ p) (p1 : p ≤ 65535) (v : Bool) (bad : s < 0)
    (U1 : Hid (∀ W, Calls Tryd.prog 19 #[.int .u32 0, .int .i64 1, .int .i64 p] W fun e w' => e = .returned (.int .u32 m1) ∧ W = w'))
 :
    Calls Tryd.prog 23 #[.int .i64 p, .int .i64 s, .int .i64 t, .bool v] w fun e w' => e = .returned (.tuple #[.int .u32 0, .int .i64 1]) ∧ w = w' := by
  have F1 := Lib.hid (fun W => field_1 W)
  have i0 := ixa p s t
  have F2 := Lib.hid (fun W => field_2 W)
  have i1 := ixb p s t
  go_enter Tryd.func23, Tryd.ntmps23
  go_wp2
  go_loop [10, 19] (fun e i => (e = .int .u32 0 ∧ i = .int .i64 0) ∨ (e = .int .u32 m1 ∧ i = .int .i64 1)) (fun _ i => 3 - (intOf i).toNat)
  case atStart => exact Or.inl (⟨rfl, rfl⟩)
  case round =>
    rcases hrel with ⟨rfl, rfl⟩ | ⟨rfl, rfl⟩
    · go_wp2_with (first | (go_at_call 46; (with_reducible refine (F1.out _).mono ?_); rintro e w' ⟨rfl, rfl⟩) | (go_at_call 19; (with_reducible refine (U1.out _).mono ?_); rintro e w' ⟨rfl, rfl⟩))
      go_round
      case rel => exact Or.inr (⟨rfl, by go_num⟩)
      case measure => simp [intOf]
    · go_wp2_with (go_at_call 46; (with_reducible refine (F2.out _).mono ?_); rintro e w' ⟨rfl, rfl⟩)
      go_ret2
      exact ⟨rfl, rfl⟩
set_option maxRecDepth 100000 in
theorem makeI_hi1 (p s t m1 : Int) (w : World) (p0 : 0 ≤ p) (p1 : p ≤ 65535) (v : Bool) (lo : 0 ≤ s) (bad : ¬ s ≤ 255)
    (U1 : Hid (∀ W, Calls Tryd.prog 19 #[.int .u32 0, .int .i64 1, .int .i64 p] W fun e w' => e = .returned (.int .u32 m1) ∧ W = w'))
 :
    Calls Tryd.prog 23 #[.int .i64 p, .int .i64 s, .int .i64 t, .bool v] w fun e w' => e = .returned (.tuple #[.int .u32 0, .int .i64 1]) ∧ w = w' := by
  have F1 := Lib.hid (fun W => field_1 W)
  have i0 := ixa p s t
  have F2 := Lib.hid (fun W => field_2 W)
  have i1 := ixb p s t
  go_enter Tryd.func23, Tryd.ntmps23
  go_wp2
  go_loop [10, 19] (fun e i => (e = .int .u32 0 ∧ i = .int .i64 0) ∨ (e = .int .u32 m1 ∧ i = .int .i64 1)) (fun _ i => 3 - (intOf i).toNat)
  case atStart => exact Or.inl (⟨rfl, rfl⟩)
  case round =>
    rcases hrel with ⟨rfl, rfl⟩ | ⟨rfl, rfl⟩
    · go_wp2_with (first | (go_at_call 46; (with_reducible refine (F1.out _).mono ?_); rintro e w' ⟨rfl, rfl⟩) | (go_at_call 19; (with_reducible refine (U1.out _).mono ?_); rintro e w' ⟨rfl, rfl⟩))
      go_round
      case rel => exact Or.inr (⟨rfl, by go_num⟩)
      case measure => simp [intOf]
    · go_wp2_with (go_at_call 46; (with_reducible refine (F2.out _).mono ?_); rintro e w' ⟨rfl, rfl⟩)
      go_ret2
      exact ⟨rfl, rfl⟩
set_option maxRecDepth 100000 in
theorem makeI_lo2 (p s t m1 m2 : Int) (w : World) (p0 : 0 ≤ p) (p1 : p ≤ 65535) (s0 : 0 ≤ s) (s1 : s ≤ 255) (v : Bool) (bad : t < 0)
    (U1 : Hid (∀ W, Calls Tryd.prog 19 #[.int .u32 0, .int .i64 1, .int .i64 p] W fun e w' => e = .returned (.int .u32 m1) ∧ W = w'))
    (U2 : Hid (∀ W, Calls Tryd.prog 19 #[.int .u32 m1, .int .i64 2, .int .i64 s] W fun e w' => e = .returned (.int .u32 m2) ∧ W = w'))
 :
    Calls Tryd.prog 23 #[.int .i64 p, .int .i64 s, .int .i64 t, .bool v] w fun e w' => e = .returned (.tuple #[.int .u32 0, .int .i64 1]) ∧ w = w' := by
  have F1 := Lib.hid (fun W => field_1 W)
  have i0 := ixa p s t
  have F2 := Lib.hid (fun W => field_2 W)
  have i1 := ixb p s t
  have F3 := Lib.hid (fun W => field_3 W)
  have i2 := ixc p s t
  go_enter Tryd.func23, Tryd.ntmps23
  go_wp2
  go_loop [10, 19] (fun e i => (e = .int .u32 0 ∧ i = .int .i64 0) ∨ (e = .int .u32 m1 ∧ i = .int .i64 1) ∨ (e = .int .u32 m2 ∧ i = .int .i64 2)) (fun _ i => 3 - (intOf i).toNat)
  case atStart => exact Or.inl (⟨rfl, rfl⟩)
  case round =>
    rcases hrel with ⟨rfl, rfl⟩ | ⟨rfl, rfl⟩ | ⟨rfl, rfl⟩
    · go_wp2_with (first | (go_at_call 46; (with_reducible refine (F1.out _).mono ?_); rintro e w' ⟨rfl, rfl⟩) | (go_at_call 19; (with_reducible refine (U1.out _).mono ?_); rintro e w' ⟨rfl, rfl⟩))
      go_round
      case rel => exact Or.inr (Or.inl (⟨rfl, by go_num⟩))
      case measure => simp [intOf]
    · go_wp2_with (first | (go_at_call 46; (with_reducible refine (F2.out _).mono ?_); rintro e w' ⟨rfl, rfl⟩) | (go_at_call 19; (with_reducible refine (U2.out _).mono ?_); rintro e w' ⟨rfl, rfl⟩))
      go_round
      case rel => exact Or.inr (Or.inr (⟨rfl, by go_num⟩))
      case measure => simp [intOf]
    · go_wp2_with (go_at_call 46; (with_reducible refine (F3.out _).mono ?_); rintro e w' ⟨rfl, rfl⟩)
      go_ret2
      exact ⟨rfl, rfl⟩
set_option maxRecDepth 100000 in
theorem makeI_hi2 (p s t m1 m2 : Int) (w : World) (p0 : 0 ≤ p) (p1 : p ≤ 65535) (s0 : 0 ≤ s) (s1 : s ≤ 255) (v : Bool) (lo : 0 ≤ t) (bad : ¬ t ≤ 127)
    (U1 : Hid (∀ W, Calls Tryd.prog 19 #[.int .u32 0, .int .i64 1, .int .i64 p] W fun e w' => e = .returned (.int .u32 m1) ∧ W = w'))
    (U2 : Hid (∀ W, Calls Tryd.prog 19 #[.int .u32 m1, .int .i64 2, .int .i64 s] W fun e w' => e = .returned (.int .u32 m2) ∧ W = w'))
 :
    Calls Tryd.prog 23 #[.int .i64 p, .int .i64 s, .int .i64 t, .bool v] w fun e w' => e = .returned (.tuple #[.int .u32 0, .int .i64 1]) ∧ w = w' := by
  have F1 := Lib.hid (fun W => field_1 W)
  have i0 := ixa p s t
  have F2 := Lib.hid (fun W => field_2 W)
  have i1 := ixb p s t
  have F3 := Lib.hid (fun W => field_3 W)
  have i2 := ixc p s t
  go_enter Tryd.func23, Tryd.ntmps23
  go_wp2
  go_loop [10, 19] (fun e i => (e = .int .u32 0 ∧ i = .int .i64 0) ∨ (e = .int .u32 m1 ∧ i = .int .i64 1) ∨ (e = .int .u32 m2 ∧ i = .int .i64 2)) (fun _ i => 3 - (intOf i).toNat)
  case atStart => exact Or.inl (⟨rfl, rfl⟩)
  case round =>
    rcases hrel with ⟨rfl, rfl⟩ | ⟨rfl, rfl⟩ | ⟨rfl, rfl⟩
    · go_wp2_with (first | (go_at_call 46; (with_reducible refine (F1.out _).mono ?_); rintro e w' ⟨rfl, rfl⟩) | (go_at_call 19; (with_reducible refine (U1.out _).mono ?_); rintro e w' ⟨rfl, rfl⟩))
      go_round
      case rel => exact Or.inr (Or.inl (⟨rfl, by go_num⟩))
      case measure => simp [intOf]
    · go_wp2_with (first | (go_at_call 46; (with_reducible refine (F2.out _).mono ?_); rintro e w' ⟨rfl, rfl⟩) | (go_at_call 19; (with_reducible refine (U2.out _).mono ?_); rintro e w' ⟨rfl, rfl⟩))
      go_round
      case rel => exact Or.inr (Or.inr (⟨rfl, by go_num⟩))
      case measure => simp [intOf]
    · go_wp2_with (go_at_call 46; (with_reducible refine (F3.out _).mono ?_); rintro e w' ⟨rfl, rfl⟩)
      go_ret2
      exact ⟨rfl, rfl⟩
end Go.Proofs.YtbghbfgbpdppeaaDoor
