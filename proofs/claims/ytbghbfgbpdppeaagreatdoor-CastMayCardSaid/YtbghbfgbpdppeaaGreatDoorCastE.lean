
/- cast.To from a text to a number, from a number to a text and to a truth; cast.May; the law's own look. -/
import Derived.Test.YtbghbfgbpdppeaaGreatDoorCastD
namespace Go.Proofs.YtbghbfgbpdppeaaGreatDoor
open Go.ChangeShapes Go.WideShapes Go.ChangeAt Go.RowKit
set_option linter.unusedVariables false


set_option maxRecDepth 100000 in
theorem to_text_int (s : ByteArray) (w : World) (hs : s.size ≤ 1000) (hT : TabsX w) (he : numE (trimB (bl s)) = 0) :
    Calls Tryz.prog 8 #[gv 3 0 s, .int .i64 2] w fun e w' => e = .returned (.tuple #[tv 2 (numV (trimB (bl s))), .int .i64 0]) ∧ Below w.heap.size w w' := by
  have q12 : ∀ w, (binOp .eql 41 (.agg #[.int .i64 3, .int .i64 2]) (.agg #[.int .i64 1, .int .i64 2])).run Tryz.prog w = .ok (.bool false) w := fun _ => by kernel_rfl
  have q21 : ∀ w, (binOp .eql 41 (.agg #[.int .i64 3, .int .i64 2]) (.agg #[.int .i64 2, .int .i64 1])).run Tryz.prog w = .ok (.bool false) w := fun _ => by kernel_rfl
  have q13 : ∀ w, (binOp .eql 41 (.agg #[.int .i64 3, .int .i64 2]) (.agg #[.int .i64 1, .int .i64 3])).run Tryz.prog w = .ok (.bool false) w := fun _ => by kernel_rfl
  have q23 : ∀ w, (binOp .eql 41 (.agg #[.int .i64 3, .int .i64 2]) (.agg #[.int .i64 2, .int .i64 3])).run Tryz.prog w = .ok (.bool false) w := fun _ => by kernel_rfl
  have I := Lib.hid (fun W => is_yes 3 0 s W (rfl))
  have C := Lib.hid (fun W (hb : Below w.heap.size w W) => read_ok s W hs (hT.below hb) he)
  clear hT he
  generalize numV (trimB (bl s)) = n at *
  go_enter Tryz.func8, Tryz.ntmps8
  go_wp2_with (first
    | (go_at_call 17; (with_reducible refine (I.out _).mono ?_); rintro e w1 ⟨rfl, hb1⟩; have hz1 := (show w.heap.size + 1 < w1.heap.size by have := hb1.size; simp at this; omega); have g0 := fun o => hb1.cell (p := ⟨w.heap.size, o, none⟩) (by simp; omega); have g1 := fun o => hb1.frozen (p := ⟨w.heap.size, o, none⟩) (by simp; omega); have g2 := fun o => hb1.cell (p := ⟨w.heap.size + 1, o, none⟩) (by simp); have g3 := fun o => hb1.frozen (p := ⟨w.heap.size + 1, o, none⟩) (by simp); have hb2 := b3 (bafter2 hb1) (Nat.le_refl _) (.int .i64 3) (.int .i64 0) (.string s))
    | (go_at_call 23; (with_reducible refine (C.out _ hb2).mono ?_); rintro e w3 ⟨rfl, hb3⟩; have hz3 := (show w.heap.size + 1 < w3.heap.size by have := hb3.size; simp at this; omega); have h0 := fun o => hb3.cell (p := ⟨w.heap.size + 1, o, none⟩) (by simp; omega); have h1 := fun o => hb3.frozen (p := ⟨w.heap.size + 1, o, none⟩) (by simp; omega)))
  exact bodyPost_ret (v := .tuple #[tv 2 n, .int .i64 0]) (by simp [results, Tryz.results8, go_sem, h0, g2]) rfl ⟨rfl, b3 (hb2.trans (hb3.mono (by simp; omega))) (by omega) _ _ _⟩

set_option maxRecDepth 100000 in
theorem to_text_no (s : ByteArray) (w : World) (hs : s.size ≤ 1000) (hT : TabsX w) (he : (numE (trimB (bl s)) != 0) = true) :
    Calls Tryz.prog 8 #[gv 3 0 s, .int .i64 2] w fun e w' => e = .returned (.tuple #[tv 0 0, .int .i64 20]) ∧ Below w.heap.size w w' := by
  have q12 : ∀ w, (binOp .eql 41 (.agg #[.int .i64 3, .int .i64 2]) (.agg #[.int .i64 1, .int .i64 2])).run Tryz.prog w = .ok (.bool false) w := fun _ => by kernel_rfl
  have q21 : ∀ w, (binOp .eql 41 (.agg #[.int .i64 3, .int .i64 2]) (.agg #[.int .i64 2, .int .i64 1])).run Tryz.prog w = .ok (.bool false) w := fun _ => by kernel_rfl
  have q13 : ∀ w, (binOp .eql 41 (.agg #[.int .i64 3, .int .i64 2]) (.agg #[.int .i64 1, .int .i64 3])).run Tryz.prog w = .ok (.bool false) w := fun _ => by kernel_rfl
  have q23 : ∀ w, (binOp .eql 41 (.agg #[.int .i64 3, .int .i64 2]) (.agg #[.int .i64 2, .int .i64 3])).run Tryz.prog w = .ok (.bool false) w := fun _ => by kernel_rfl
  have I := Lib.hid (fun W => is_yes 3 0 s W (rfl))
  have C := Lib.hid (fun W (hb : Below w.heap.size w W) => read_no s W hs (hT.below hb) he)
  clear hT he
  go_enter Tryz.func8, Tryz.ntmps8
  go_wp2_with (first
    | (go_at_call 17; (with_reducible refine (I.out _).mono ?_); rintro e w1 ⟨rfl, hb1⟩; have hz1 := (show w.heap.size + 1 < w1.heap.size by have := hb1.size; simp at this; omega); have g0 := fun o => hb1.cell (p := ⟨w.heap.size, o, none⟩) (by simp; omega); have g1 := fun o => hb1.frozen (p := ⟨w.heap.size, o, none⟩) (by simp; omega); have g2 := fun o => hb1.cell (p := ⟨w.heap.size + 1, o, none⟩) (by simp); have g3 := fun o => hb1.frozen (p := ⟨w.heap.size + 1, o, none⟩) (by simp); have hb2 := b3 (bafter2 hb1) (Nat.le_refl _) (.int .i64 3) (.int .i64 0) (.string s))
    | (go_at_call 23; (with_reducible refine (C.out _ hb2).mono ?_); rintro e w3 ⟨rfl, hb3⟩; have hz3 := (show w.heap.size + 1 < w3.heap.size by have := hb3.size; simp at this; omega); have h0 := fun o => hb3.cell (p := ⟨w.heap.size + 1, o, none⟩) (by simp; omega); have h1 := fun o => hb3.frozen (p := ⟨w.heap.size + 1, o, none⟩) (by simp; omega)))
  exact bodyPost_ret (v := .tuple #[tv 0 0, .int .i64 20]) (by simp [results, Tryz.results8, go_sem, h0, g2]) rfl ⟨rfl, b3 (hb2.trans (hb3.mono (by simp; omega))) (by omega) _ _ _⟩

set_option maxRecDepth 100000 in
theorem to_int_bool (n : Int) (w : World) :
    Calls Tryz.prog 8 #[gv 2 n { data := #[] }, .int .i64 1] w fun e w' => e = .returned (.tuple #[tv 1 (b2t (n != 0)), .int .i64 0]) ∧ Below w.heap.size w w' := by
  have q12 : ∀ w, (binOp .eql 41 (.agg #[.int .i64 2, .int .i64 1]) (.agg #[.int .i64 1, .int .i64 2])).run Tryz.prog w = .ok (.bool false) w := fun _ => by kernel_rfl
  have q21 : ∀ w, (binOp .eql 41 (.agg #[.int .i64 2, .int .i64 1]) (.agg #[.int .i64 2, .int .i64 1])).run Tryz.prog w = .ok (.bool true) w := fun _ => by kernel_rfl
  have I := Lib.hid (fun W => is_yes 2 n { data := #[] } W (okB_int n))
  go_enter Tryz.func8, Tryz.ntmps8
  go_wp2_with (first
    | (go_at_call 17; (with_reducible refine (I.out _).mono ?_); rintro e w1 ⟨rfl, hb1⟩; have hz1 := (show w.heap.size + 1 < w1.heap.size by have := hb1.size; simp at this; omega); have g0 := fun o => hb1.cell (p := ⟨w.heap.size, o, none⟩) (by simp; omega); have g1 := fun o => hb1.frozen (p := ⟨w.heap.size, o, none⟩) (by simp; omega); have g2 := fun o => hb1.cell (p := ⟨w.heap.size + 1, o, none⟩) (by simp); have g3 := fun o => hb1.frozen (p := ⟨w.heap.size + 1, o, none⟩) (by simp); have hb2 := b3 (bafter2 hb1) (Nat.le_refl _) (.int .i64 2) (.int .i64 n) (.string { data := #[] }))
    | (go_at_call 20; (with_reducible refine (vbool_any (n != 0) _).mono ?_); rintro e w3 ⟨rfl, hb3⟩; have hz3 := (show w.heap.size + 1 < w3.heap.size by have := hb3.size; simp at this; omega); have h0 := fun o => hb3.cell (p := ⟨w.heap.size + 1, o, none⟩) (by simp; omega); have h1 := fun o => hb3.frozen (p := ⟨w.heap.size + 1, o, none⟩) (by simp; omega)))
  exact bodyPost_ret (v := .tuple #[tv 1 (b2t (n != 0)), .int .i64 0]) (by simp [results, Tryz.results8, go_sem, h0, g2]) rfl ⟨rfl, b3 (hb2.trans (hb3.mono (by simp; omega))) (by omega) _ _ _⟩

set_option maxRecDepth 100000 in
theorem to_int_text (n : Int) (w : World) (hn : fits n = true) (hT : TabsX w) :
    Calls Tryz.prog 8 #[gv 2 n { data := #[] }, .int .i64 3] w fun e w' => e = .returned (.tuple #[gv 3 0 ⟨(Lib.itoa n).toArray⟩, .int .i64 0]) ∧ Below w.heap.size w w' := by
  have q12 : ∀ w, (binOp .eql 41 (.agg #[.int .i64 2, .int .i64 3]) (.agg #[.int .i64 1, .int .i64 2])).run Tryz.prog w = .ok (.bool false) w := fun _ => by kernel_rfl
  have q21 : ∀ w, (binOp .eql 41 (.agg #[.int .i64 2, .int .i64 3]) (.agg #[.int .i64 2, .int .i64 1])).run Tryz.prog w = .ok (.bool false) w := fun _ => by kernel_rfl
  have q13 : ∀ w, (binOp .eql 41 (.agg #[.int .i64 2, .int .i64 3]) (.agg #[.int .i64 1, .int .i64 3])).run Tryz.prog w = .ok (.bool false) w := fun _ => by kernel_rfl
  have q23 : ∀ w, (binOp .eql 41 (.agg #[.int .i64 2, .int .i64 3]) (.agg #[.int .i64 2, .int .i64 3])).run Tryz.prog w = .ok (.bool true) w := fun _ => by kernel_rfl
  have I := Lib.hid (fun W => is_yes 2 n { data := #[] } W (okB_int n))
  have C := Lib.hid (fun W (hb : Below w.heap.size w W) => show_int n W hn (hT.below hb))
  clear hT hn
  generalize (⟨(Lib.itoa n).toArray⟩ : ByteArray) = t at *
  go_enter Tryz.func8, Tryz.ntmps8
  go_wp2_with (first
    | (go_at_call 17; (with_reducible refine (I.out _).mono ?_); rintro e w1 ⟨rfl, hb1⟩; have hz1 := (show w.heap.size + 1 < w1.heap.size by have := hb1.size; simp at this; omega); have g0 := fun o => hb1.cell (p := ⟨w.heap.size, o, none⟩) (by simp; omega); have g1 := fun o => hb1.frozen (p := ⟨w.heap.size, o, none⟩) (by simp; omega); have g2 := fun o => hb1.cell (p := ⟨w.heap.size + 1, o, none⟩) (by simp); have g3 := fun o => hb1.frozen (p := ⟨w.heap.size + 1, o, none⟩) (by simp); have hb2 := b3 (bafter2 hb1) (Nat.le_refl _) (.int .i64 2) (.int .i64 n) (.string { data := #[] }))
    | (go_at_call 22; (with_reducible refine (C.out _ hb2).mono ?_); rintro e w2 ⟨rfl, hb4⟩)
    | (go_at_call 21; (with_reducible refine (vtext_any _ _).mono ?_); rintro e w3 ⟨rfl, hb5⟩; have hb3 := btr hb4 hb5; have hz3 := (show w.heap.size + 1 < w3.heap.size by have := hb3.size; simp at this; omega); have h0 := fun o => hb3.cell (p := ⟨w.heap.size + 1, o, none⟩) (by simp; omega); have h1 := fun o => hb3.frozen (p := ⟨w.heap.size + 1, o, none⟩) (by simp; omega)))
  exact bodyPost_ret (v := .tuple #[gv 3 0 t, .int .i64 0]) (by simp [results, Tryz.results8, go_sem, h0, g2]) rfl ⟨rfl, b3 (hb2.trans (hb3.mono (by simp; omega))) (by omega) _ _ _⟩

theorem may_23 (w : World) : Calls Tryz.prog 11 #[.int .i64 2, .int .i64 3] w fun e w' => e = .returned (.bool true) ∧ w = w' := by
  go_enter Tryz.func11, Tryz.ntmps11
  go_wp2
  go_ret
  exact ⟨rfl, rfl⟩

theorem to_007 (w : World) (hT : TabsX w) : Calls Tryz.prog 8 #[gv 3 0 ⟨#[32, 48, 48, 55, 32]⟩, .int .i64 2] w fun e w' => e = .returned (.tuple #[tv 2 7, .int .i64 0]) ∧ Below w.heap.size w w' := by
  have h := to_text_int ⟨#[32, 48, 48, 55, 32]⟩ w (by decide +kernel) hT (by decide +kernel)
  have e : numV (trimB (bl ⟨#[32, 48, 48, 55, 32]⟩)) = 7 := by decide +kernel
  rw [e] at h
  exact h
end Go.Proofs.YtbghbfgbpdppeaaGreatDoor
