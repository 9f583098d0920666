
/- cast.To: a truth as a text, a text as a truth. -/
import Derived.Test.YtbghbfgbpdppeaaGreatDoorCastN
import Derived.Test.YtbghbfgbpdppeaaGreatDoorTextL
namespace Go.Proofs.YtbghbfgbpdppeaaGreatDoor
open Go.ChangeShapes Go.WideShapes Go.ChangeAt Go.RowKit
set_option linter.unusedVariables false

theorem print_b0 (s : ByteArray) (w : World) (h : okB 1 0 s = true) :
    Calls Tryz.prog 34 #[gv 1 0 s] w fun e w' => e = .returned (.string ⟨#[70, 65, 76, 83, 69]⟩) ∧ Below w.heap.size w w' := by
  have I := Lib.hid (fun W => is_yes 1 0 s W h)
  clear h
  go_enter Tryz.func34, Tryz.ntmps34
  go_wp2_with (first
    | (go_at_call 17; (with_reducible refine (I.out _).mono ?_); rintro e w1 ⟨rfl, hb1⟩; have hz1 := (show w.heap.size < w1.heap.size by have := hb1.size; simp at this; omega); have g0 := fun o => hb1.cell (p := ⟨w.heap.size, o, none⟩) (by simp); have g1 := fun o => hb1.frozen (p := ⟨w.heap.size, o, none⟩) (by simp); have hb2 := b3 (bafter hb1) (Nat.le_refl _) (.int .i64 1) (.int .i64 0) (.string s)))
  go_ret
  exact ⟨rfl, hb2⟩
theorem show_b0 (s : ByteArray) (w : World) (h : okB 1 0 s = true) :
    Calls Tryz.prog 22 #[gv 1 0 s] w fun e w' => e = .returned (.string ⟨#[70, 65, 76, 83, 69]⟩) ∧ Below w.heap.size w w' := by
  have I := Lib.hid (fun W => is_yes 1 0 s W h)
  have C := Lib.hid (fun W => print_b0 s W h)
  clear h
  go_enter Tryz.func22, Tryz.ntmps22
  go_wp2_with (first
    | (go_at_call 17; (with_reducible refine (I.out _).mono ?_); rintro e w1 ⟨rfl, hb1⟩; have hz1 := (show w.heap.size < w1.heap.size by have := hb1.size; simp at this; omega); have g0 := fun o => hb1.cell (p := ⟨w.heap.size, o, none⟩) (by simp); have g1 := fun o => hb1.frozen (p := ⟨w.heap.size, o, none⟩) (by simp); have hb2 := b3 (bafter hb1) (Nat.le_refl _) (.int .i64 1) (.int .i64 0) (.string s))
    | (go_at_call 34; (with_reducible refine (C.out _).mono ?_); rintro e w2 ⟨rfl, hb3⟩))
  go_ret
  exact ⟨rfl, hb2.trans (hb3.mono hb2.size)⟩
set_option maxRecDepth 100000 in
theorem to_b0_text (s : ByteArray) (w : World) (h : okB 1 0 s = true) :
    Calls Tryz.prog 8 #[gv 1 0 s, .int .i64 3] w fun e w' => e = .returned (.tuple #[gv 3 0 ⟨#[70, 65, 76, 83, 69]⟩, .int .i64 0]) ∧ Below w.heap.size w w' := by
  have q12 : ∀ w, (binOp .eql 41 (.agg #[.int .i64 1, .int .i64 3]) (.agg #[.int .i64 1, .int .i64 2])).run Tryz.prog w = .ok (.bool false) w := fun _ => by kernel_rfl
  have q21 : ∀ w, (binOp .eql 41 (.agg #[.int .i64 1, .int .i64 3]) (.agg #[.int .i64 2, .int .i64 1])).run Tryz.prog w = .ok (.bool false) w := fun _ => by kernel_rfl
  have q13 : ∀ w, (binOp .eql 41 (.agg #[.int .i64 1, .int .i64 3]) (.agg #[.int .i64 1, .int .i64 3])).run Tryz.prog w = .ok (.bool true) w := fun _ => by kernel_rfl
  have I := Lib.hid (fun W => is_yes 1 0 s W h)
  have C := Lib.hid (fun W => show_b0 s W h)
  clear h
  generalize (⟨#[70, 65, 76, 83, 69]⟩ : ByteArray) = t at *
  go_enter Tryz.func8, Tryz.ntmps8
  go_wp2_with (first
    | (go_at_call 17; (with_reducible refine (I.out _).mono ?_); rintro e w1 ⟨rfl, hb1⟩; have hz1 := (show w.heap.size + 1 < w1.heap.size by have := hb1.size; simp at this; omega); have g0 := fun o => hb1.cell (p := ⟨w.heap.size, o, none⟩) (by simp; omega); have g1 := fun o => hb1.frozen (p := ⟨w.heap.size, o, none⟩) (by simp; omega); have g2 := fun o => hb1.cell (p := ⟨w.heap.size + 1, o, none⟩) (by simp); have g3 := fun o => hb1.frozen (p := ⟨w.heap.size + 1, o, none⟩) (by simp); have hb2 := b3 (bafter2 hb1) (Nat.le_refl _) (.int .i64 1) (.int .i64 0) (.string s))
    | (go_at_call 22; (with_reducible refine (C.out _).mono ?_); rintro e w2 ⟨rfl, hb4⟩)
    | (go_at_call 21; (with_reducible refine (vtext_any _ _).mono ?_); rintro e w3 ⟨rfl, hb5⟩; have hb3 := btr hb4 hb5; have hz3 := (show w.heap.size + 1 < w3.heap.size by have := hb3.size; simp at this; omega); have h0 := fun o => hb3.cell (p := ⟨w.heap.size + 1, o, none⟩) (by simp; omega); have h1 := fun o => hb3.frozen (p := ⟨w.heap.size + 1, o, none⟩) (by simp; omega)))
  exact bodyPost_ret (v := .tuple #[gv 3 0 t, .int .i64 0]) (by simp [results, Tryz.results8, go_sem, h0, g2]) rfl ⟨rfl, b3 (hb2.trans (hb3.mono (by simp; omega))) (by omega) _ _ _⟩

theorem print_b1 (s : ByteArray) (w : World) (h : okB 1 1 s = true) :
    Calls Tryz.prog 34 #[gv 1 1 s] w fun e w' => e = .returned (.string ⟨#[84, 82, 85, 69]⟩) ∧ Below w.heap.size w w' := by
  have I := Lib.hid (fun W => is_yes 1 1 s W h)
  clear h
  go_enter Tryz.func34, Tryz.ntmps34
  go_wp2_with (first
    | (go_at_call 17; (with_reducible refine (I.out _).mono ?_); rintro e w1 ⟨rfl, hb1⟩; have hz1 := (show w.heap.size < w1.heap.size by have := hb1.size; simp at this; omega); have g0 := fun o => hb1.cell (p := ⟨w.heap.size, o, none⟩) (by simp); have g1 := fun o => hb1.frozen (p := ⟨w.heap.size, o, none⟩) (by simp); have hb2 := b3 (bafter hb1) (Nat.le_refl _) (.int .i64 1) (.int .i64 1) (.string s)))
  go_ret
  exact ⟨rfl, hb2⟩
theorem show_b1 (s : ByteArray) (w : World) (h : okB 1 1 s = true) :
    Calls Tryz.prog 22 #[gv 1 1 s] w fun e w' => e = .returned (.string ⟨#[84, 82, 85, 69]⟩) ∧ Below w.heap.size w w' := by
  have I := Lib.hid (fun W => is_yes 1 1 s W h)
  have C := Lib.hid (fun W => print_b1 s W h)
  clear h
  go_enter Tryz.func22, Tryz.ntmps22
  go_wp2_with (first
    | (go_at_call 17; (with_reducible refine (I.out _).mono ?_); rintro e w1 ⟨rfl, hb1⟩; have hz1 := (show w.heap.size < w1.heap.size by have := hb1.size; simp at this; omega); have g0 := fun o => hb1.cell (p := ⟨w.heap.size, o, none⟩) (by simp); have g1 := fun o => hb1.frozen (p := ⟨w.heap.size, o, none⟩) (by simp); have hb2 := b3 (bafter hb1) (Nat.le_refl _) (.int .i64 1) (.int .i64 1) (.string s))
    | (go_at_call 34; (with_reducible refine (C.out _).mono ?_); rintro e w2 ⟨rfl, hb3⟩))
  go_ret
  exact ⟨rfl, hb2.trans (hb3.mono hb2.size)⟩
set_option maxRecDepth 100000 in
theorem to_b1_text (s : ByteArray) (w : World) (h : okB 1 1 s = true) :
    Calls Tryz.prog 8 #[gv 1 1 s, .int .i64 3] w fun e w' => e = .returned (.tuple #[gv 3 0 ⟨#[84, 82, 85, 69]⟩, .int .i64 0]) ∧ Below w.heap.size w w' := by
  have q12 : ∀ w, (binOp .eql 41 (.agg #[.int .i64 1, .int .i64 3]) (.agg #[.int .i64 1, .int .i64 2])).run Tryz.prog w = .ok (.bool false) w := fun _ => by kernel_rfl
  have q21 : ∀ w, (binOp .eql 41 (.agg #[.int .i64 1, .int .i64 3]) (.agg #[.int .i64 2, .int .i64 1])).run Tryz.prog w = .ok (.bool false) w := fun _ => by kernel_rfl
  have q13 : ∀ w, (binOp .eql 41 (.agg #[.int .i64 1, .int .i64 3]) (.agg #[.int .i64 1, .int .i64 3])).run Tryz.prog w = .ok (.bool true) w := fun _ => by kernel_rfl
  have I := Lib.hid (fun W => is_yes 1 1 s W h)
  have C := Lib.hid (fun W => show_b1 s W h)
  clear h
  generalize (⟨#[84, 82, 85, 69]⟩ : ByteArray) = t at *
  go_enter Tryz.func8, Tryz.ntmps8
  go_wp2_with (first
    | (go_at_call 17; (with_reducible refine (I.out _).mono ?_); rintro e w1 ⟨rfl, hb1⟩; have hz1 := (show w.heap.size + 1 < w1.heap.size by have := hb1.size; simp at this; omega); have g0 := fun o => hb1.cell (p := ⟨w.heap.size, o, none⟩) (by simp; omega); have g1 := fun o => hb1.frozen (p := ⟨w.heap.size, o, none⟩) (by simp; omega); have g2 := fun o => hb1.cell (p := ⟨w.heap.size + 1, o, none⟩) (by simp); have g3 := fun o => hb1.frozen (p := ⟨w.heap.size + 1, o, none⟩) (by simp); have hb2 := b3 (bafter2 hb1) (Nat.le_refl _) (.int .i64 1) (.int .i64 1) (.string s))
    | (go_at_call 22; (with_reducible refine (C.out _).mono ?_); rintro e w2 ⟨rfl, hb4⟩)
    | (go_at_call 21; (with_reducible refine (vtext_any _ _).mono ?_); rintro e w3 ⟨rfl, hb5⟩; have hb3 := btr hb4 hb5; have hz3 := (show w.heap.size + 1 < w3.heap.size by have := hb3.size; simp at this; omega); have h0 := fun o => hb3.cell (p := ⟨w.heap.size + 1, o, none⟩) (by simp; omega); have h1 := fun o => hb3.frozen (p := ⟨w.heap.size + 1, o, none⟩) (by simp; omega)))
  exact bodyPost_ret (v := .tuple #[gv 3 0 t, .int .i64 0]) (by simp [results, Tryz.results8, go_sem, h0, g2]) rfl ⟨rfl, b3 (hb2.trans (hb3.mono (by simp; omega))) (by omega) _ _ _⟩

end Go.Proofs.YtbghbfgbpdppeaaGreatDoor
