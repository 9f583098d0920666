
/- cast.To: nothing, and a value of its own kind; a truth as a number. -/
import Derived.Test.YtbghbfgbpdppeaaGreatDoorCastE
namespace Go.Proofs.YtbghbfgbpdppeaaGreatDoor
open Go.ChangeShapes Go.WideShapes Go.ChangeAt Go.RowKit
set_option linter.unusedVariables false

set_option maxRecDepth 100000 in
theorem to_null (k n K m : Int) (s t : ByteArray) (w : World) (I : Hid (∀ W, Calls Tryz.prog 17 #[gv k n s] W fun e w' => e = .returned (gv 0 m t) ∧ Below W.heap.size W w')) :
    Calls Tryz.prog 8 #[gv k n s, .int .i64 K] w fun e w' => e = .returned (.tuple #[gv 0 m t, .int .i64 0]) ∧ Below w.heap.size w w' := by
  go_enter Tryz.func8, Tryz.ntmps8
  go_wp2_with (first
    | (go_at_call 17; (with_reducible refine (I.out _).mono ?_); rintro e w1 ⟨rfl, hb1⟩; have hz1 := (show w.heap.size + 1 < w1.heap.size by have := hb1.size; simp at this; omega); have g0 := fun o => hb1.cell (p := ⟨w.heap.size, o, none⟩) (by simp; omega); have g1 := fun o => hb1.frozen (p := ⟨w.heap.size, o, none⟩) (by simp; omega); have g2 := fun o => hb1.cell (p := ⟨w.heap.size + 1, o, none⟩) (by simp); have g3 := fun o => hb1.frozen (p := ⟨w.heap.size + 1, o, none⟩) (by simp); have hb2 := b3 (bafter2 hb1) (Nat.le_refl _) (.int .i64 0) (.int .i64 m) (.string t)))
  exact bodyPost_ret (v := .tuple #[gv 0 m t, .int .i64 0]) (by simp [results, Tryz.results8, go_sem, g2]) rfl ⟨rfl, b3 hb2 (by omega) _ _ _⟩

set_option maxRecDepth 100000 in
theorem to_same_1 (n : Int) (s : ByteArray) (w : World) (h : okB 1 n s = true) :
    Calls Tryz.prog 8 #[gv 1 n s, .int .i64 1] w fun e w' => e = .returned (.tuple #[gv 1 n s, .int .i64 0]) ∧ Below w.heap.size w w' := by
  have I := Lib.hid (fun W => is_yes 1 n s W h)
  clear h
  go_enter Tryz.func8, Tryz.ntmps8
  go_wp2_with (first
    | (go_at_call 17; (with_reducible refine (I.out _).mono ?_); rintro e w1 ⟨rfl, hb1⟩; have hz1 := (show w.heap.size + 1 < w1.heap.size by have := hb1.size; simp at this; omega); have g0 := fun o => hb1.cell (p := ⟨w.heap.size, o, none⟩) (by simp; omega); have g1 := fun o => hb1.frozen (p := ⟨w.heap.size, o, none⟩) (by simp; omega); have g2 := fun o => hb1.cell (p := ⟨w.heap.size + 1, o, none⟩) (by simp); have g3 := fun o => hb1.frozen (p := ⟨w.heap.size + 1, o, none⟩) (by simp); have hb2 := b3 (bafter2 hb1) (Nat.le_refl _) (.int .i64 1) (.int .i64 n) (.string s)))
  exact bodyPost_ret (v := .tuple #[gv 1 n s, .int .i64 0]) (by simp [results, Tryz.results8, go_sem, g2]) rfl ⟨rfl, b3 hb2 (by omega) _ _ _⟩

set_option maxRecDepth 100000 in
theorem to_same_2 (n : Int) (s : ByteArray) (w : World) (h : okB 2 n s = true) :
    Calls Tryz.prog 8 #[gv 2 n s, .int .i64 2] w fun e w' => e = .returned (.tuple #[gv 2 n s, .int .i64 0]) ∧ Below w.heap.size w w' := by
  have I := Lib.hid (fun W => is_yes 2 n s W h)
  clear h
  go_enter Tryz.func8, Tryz.ntmps8
  go_wp2_with (first
    | (go_at_call 17; (with_reducible refine (I.out _).mono ?_); rintro e w1 ⟨rfl, hb1⟩; have hz1 := (show w.heap.size + 1 < w1.heap.size by have := hb1.size; simp at this; omega); have g0 := fun o => hb1.cell (p := ⟨w.heap.size, o, none⟩) (by simp; omega); have g1 := fun o => hb1.frozen (p := ⟨w.heap.size, o, none⟩) (by simp; omega); have g2 := fun o => hb1.cell (p := ⟨w.heap.size + 1, o, none⟩) (by simp); have g3 := fun o => hb1.frozen (p := ⟨w.heap.size + 1, o, none⟩) (by simp); have hb2 := b3 (bafter2 hb1) (Nat.le_refl _) (.int .i64 2) (.int .i64 n) (.string s)))
  exact bodyPost_ret (v := .tuple #[gv 2 n s, .int .i64 0]) (by simp [results, Tryz.results8, go_sem, g2]) rfl ⟨rfl, b3 hb2 (by omega) _ _ _⟩

set_option maxRecDepth 100000 in
theorem to_same_3 (n : Int) (s : ByteArray) (w : World) (h : okB 3 n s = true) :
    Calls Tryz.prog 8 #[gv 3 n s, .int .i64 3] w fun e w' => e = .returned (.tuple #[gv 3 n s, .int .i64 0]) ∧ Below w.heap.size w w' := by
  have I := Lib.hid (fun W => is_yes 3 n s W h)
  clear h
  go_enter Tryz.func8, Tryz.ntmps8
  go_wp2_with (first
    | (go_at_call 17; (with_reducible refine (I.out _).mono ?_); rintro e w1 ⟨rfl, hb1⟩; have hz1 := (show w.heap.size + 1 < w1.heap.size by have := hb1.size; simp at this; omega); have g0 := fun o => hb1.cell (p := ⟨w.heap.size, o, none⟩) (by simp; omega); have g1 := fun o => hb1.frozen (p := ⟨w.heap.size, o, none⟩) (by simp; omega); have g2 := fun o => hb1.cell (p := ⟨w.heap.size + 1, o, none⟩) (by simp); have g3 := fun o => hb1.frozen (p := ⟨w.heap.size + 1, o, none⟩) (by simp); have hb2 := b3 (bafter2 hb1) (Nat.le_refl _) (.int .i64 3) (.int .i64 n) (.string s)))
  exact bodyPost_ret (v := .tuple #[gv 3 n s, .int .i64 0]) (by simp [results, Tryz.results8, go_sem, g2]) rfl ⟨rfl, b3 hb2 (by omega) _ _ _⟩

set_option maxRecDepth 100000 in
theorem to_bool_int (n : Int) (s : ByteArray) (w : World) (h : okB 1 n s = true) :
    Calls Tryz.prog 8 #[gv 1 n s, .int .i64 2] w fun e w' => e = .returned (.tuple #[tv 2 n, .int .i64 0]) ∧ Below w.heap.size w w' := by
  have q12 : ∀ w, (binOp .eql 41 (.agg #[.int .i64 1, .int .i64 2]) (.agg #[.int .i64 1, .int .i64 2])).run Tryz.prog w = .ok (.bool true) w := fun _ => by kernel_rfl
  have I := Lib.hid (fun W => is_yes 1 n s W h)
  clear h
  go_enter Tryz.func8, Tryz.ntmps8
  go_wp2_with (first
    | (go_at_call 17; (with_reducible refine (I.out _).mono ?_); rintro e w1 ⟨rfl, hb1⟩; have hz1 := (show w.heap.size + 1 < w1.heap.size by have := hb1.size; simp at this; omega); have g0 := fun o => hb1.cell (p := ⟨w.heap.size, o, none⟩) (by simp; omega); have g1 := fun o => hb1.frozen (p := ⟨w.heap.size, o, none⟩) (by simp; omega); have g2 := fun o => hb1.cell (p := ⟨w.heap.size + 1, o, none⟩) (by simp); have g3 := fun o => hb1.frozen (p := ⟨w.heap.size + 1, o, none⟩) (by simp); have hb2 := b3 (bafter2 hb1) (Nat.le_refl _) (.int .i64 1) (.int .i64 n) (.string s))
    | (go_at_call 19; (with_reducible refine (int_any n _).mono ?_); rintro e w3 ⟨rfl, hb3⟩; have hz3 := (show w.heap.size + 1 < w3.heap.size by have := hb3.size; simp at this; omega); have h0 := fun o => hb3.cell (p := ⟨w.heap.size + 1, o, none⟩) (by simp; omega); have h1 := fun o => hb3.frozen (p := ⟨w.heap.size + 1, o, none⟩) (by simp; omega)))
  exact bodyPost_ret (v := .tuple #[tv 2 n, .int .i64 0]) (by simp [results, Tryz.results8, go_sem, h0, g2]) rfl ⟨rfl, b3 (hb2.trans (hb3.mono (by simp; omega))) (by omega) _ _ _⟩
end Go.Proofs.YtbghbfgbpdppeaaGreatDoor
