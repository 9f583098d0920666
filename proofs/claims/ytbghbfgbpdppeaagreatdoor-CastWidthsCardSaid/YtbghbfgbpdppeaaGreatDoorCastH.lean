
/- cast.Call at "byte" and "word" of a number: what it returns. -/
import Derived.Test.YtbghbfgbpdppeaaGreatDoorCastF
namespace Go.Proofs.YtbghbfgbpdppeaaGreatDoor
open Go.ChangeShapes Go.WideShapes Go.ChangeAt Go.RowKit
set_option linter.unusedVariables false


theorem takes_byte (w : World) : Calls Tryz.prog 28 #[.string ⟨#[98, 121, 116, 101]⟩] w fun e w' => e = .returned (.tuple #[.int .i64 2, .bool true]) ∧ w = w' := by
  go_enter Tryz.func28, Tryz.ntmps28
  go_wp2
  go_ret2
  exact ⟨rfl, rfl⟩
set_option maxHeartbeats 400000 in
set_option maxRecDepth 100000 in
theorem call_byte (n most : Int) (w : World) :
    Calls Tryz.prog 16 #[.string ⟨#[98, 121, 116, 101]⟩, tv 2 n, .int .i64 most] w fun e w' => e = .returned (.tuple #[tv 2 (wrapV n 1 false), .int .i64 0]) ∧ Below w.heap.size w w' := by
  have q0 : ∀ w, (binOp .eql 54 (.agg #[.string ⟨#[98, 121, 116, 101]⟩, .int .i64 2]) (.agg #[.string ⟨#[108, 101, 110, 103, 116, 104]⟩, .int .i64 3])).run Tryz.prog w = .ok (.bool false) w := fun _ => by kernel_rfl
  have q1 : ∀ w, (binOp .eql 54 (.agg #[.string ⟨#[98, 121, 116, 101]⟩, .int .i64 2]) (.agg #[.string ⟨#[102, 111, 108, 100]⟩, .int .i64 3])).run Tryz.prog w = .ok (.bool false) w := fun _ => by kernel_rfl
  have q2 : ∀ w, (binOp .eql 54 (.agg #[.string ⟨#[98, 121, 116, 101]⟩, .int .i64 2]) (.agg #[.string ⟨#[97, 98, 115]⟩, .int .i64 2])).run Tryz.prog w = .ok (.bool false) w := fun _ => by kernel_rfl
  have q3 : ∀ w, (binOp .eql 54 (.agg #[.string ⟨#[98, 121, 116, 101]⟩, .int .i64 2]) (.agg #[.string ⟨#[98, 121, 116, 101]⟩, .int .i64 2])).run Tryz.prog w = .ok (.bool true) w := fun _ => by kernel_rfl
  have I := Lib.hid (fun W => is_yes 2 n { data := #[] } W (okB_int n))
  have C := Lib.hid (fun W => wrap_any n 1 false W)
  generalize wrapV n 1 false = m at *
  go_enter Tryz.func16, Tryz.ntmps16
  go_wp2_with (first
    | (go_at_call 17; (with_reducible refine (I.out _).mono ?_); rintro e w1 ⟨rfl, hb1⟩; have hz1 := (show w.heap.size + 1 < w1.heap.size by have := hb1.size; simp at this; omega); have g0 := fun o => hb1.cell (p := ⟨w.heap.size, o, none⟩) (by simp; omega); have g1 := fun o => hb1.frozen (p := ⟨w.heap.size, o, none⟩) (by simp; omega); have g2 := fun o => hb1.cell (p := ⟨w.heap.size + 1, o, none⟩) (by simp); have g3 := fun o => hb1.frozen (p := ⟨w.heap.size + 1, o, none⟩) (by simp); have hb2 := b3 (bafter2 hb1) (Nat.le_refl _) (.int .i64 2) (.int .i64 n) (.string { data := #[] }))
    | (go_at_call 28; (with_reducible refine (takes_byte _).mono ?_); rintro e w2 ⟨rfl, rfl⟩)
    | (go_at_call 32; (with_reducible refine (C.out _).mono ?_); rintro e w2 ⟨rfl, rfl⟩)
    | (go_at_call 19; (with_reducible refine (int_any m _).mono ?_); rintro e w3 ⟨rfl, hb3⟩; have hz3 := (show w.heap.size + 1 < w3.heap.size by have := hb3.size; simp at this; omega); have h0 := fun o => hb3.cell (p := ⟨w.heap.size + 1, o, none⟩) (by simp; omega); have h1 := fun o => hb3.frozen (p := ⟨w.heap.size + 1, o, none⟩) (by simp; omega)))
  exact bodyPost_ret (v := .tuple #[tv 2 m, .int .i64 0]) (by simp [results, Tryz.results16, go_sem, h0, g2]) rfl ⟨rfl, b3 (hb2.trans (hb3.mono (by simp; omega))) (by omega) _ _ _⟩

theorem takes_word (w : World) : Calls Tryz.prog 28 #[.string ⟨#[119, 111, 114, 100]⟩] w fun e w' => e = .returned (.tuple #[.int .i64 2, .bool true]) ∧ w = w' := by
  go_enter Tryz.func28, Tryz.ntmps28
  go_wp2
  go_ret2
  exact ⟨rfl, rfl⟩
set_option maxHeartbeats 400000 in
set_option maxRecDepth 100000 in
theorem call_word (n most : Int) (w : World) :
    Calls Tryz.prog 16 #[.string ⟨#[119, 111, 114, 100]⟩, tv 2 n, .int .i64 most] w fun e w' => e = .returned (.tuple #[tv 2 (wrapV n 4 true), .int .i64 0]) ∧ Below w.heap.size w w' := by
  have q0 : ∀ w, (binOp .eql 54 (.agg #[.string ⟨#[119, 111, 114, 100]⟩, .int .i64 2]) (.agg #[.string ⟨#[108, 101, 110, 103, 116, 104]⟩, .int .i64 3])).run Tryz.prog w = .ok (.bool false) w := fun _ => by kernel_rfl
  have q1 : ∀ w, (binOp .eql 54 (.agg #[.string ⟨#[119, 111, 114, 100]⟩, .int .i64 2]) (.agg #[.string ⟨#[102, 111, 108, 100]⟩, .int .i64 3])).run Tryz.prog w = .ok (.bool false) w := fun _ => by kernel_rfl
  have q2 : ∀ w, (binOp .eql 54 (.agg #[.string ⟨#[119, 111, 114, 100]⟩, .int .i64 2]) (.agg #[.string ⟨#[97, 98, 115]⟩, .int .i64 2])).run Tryz.prog w = .ok (.bool false) w := fun _ => by kernel_rfl
  have q3 : ∀ w, (binOp .eql 54 (.agg #[.string ⟨#[119, 111, 114, 100]⟩, .int .i64 2]) (.agg #[.string ⟨#[98, 121, 116, 101]⟩, .int .i64 2])).run Tryz.prog w = .ok (.bool false) w := fun _ => by kernel_rfl
  have q4 : ∀ w, (binOp .eql 54 (.agg #[.string ⟨#[119, 111, 114, 100]⟩, .int .i64 2]) (.agg #[.string ⟨#[119, 111, 114, 100]⟩, .int .i64 2])).run Tryz.prog w = .ok (.bool true) w := fun _ => by kernel_rfl
  have I := Lib.hid (fun W => is_yes 2 n { data := #[] } W (okB_int n))
  have C := Lib.hid (fun W => wrap_any n 4 true W)
  generalize wrapV n 4 true = m at *
  go_enter Tryz.func16, Tryz.ntmps16
  go_wp2_with (first
    | (go_at_call 17; (with_reducible refine (I.out _).mono ?_); rintro e w1 ⟨rfl, hb1⟩; have hz1 := (show w.heap.size + 1 < w1.heap.size by have := hb1.size; simp at this; omega); have g0 := fun o => hb1.cell (p := ⟨w.heap.size, o, none⟩) (by simp; omega); have g1 := fun o => hb1.frozen (p := ⟨w.heap.size, o, none⟩) (by simp; omega); have g2 := fun o => hb1.cell (p := ⟨w.heap.size + 1, o, none⟩) (by simp); have g3 := fun o => hb1.frozen (p := ⟨w.heap.size + 1, o, none⟩) (by simp); have hb2 := b3 (bafter2 hb1) (Nat.le_refl _) (.int .i64 2) (.int .i64 n) (.string { data := #[] }))
    | (go_at_call 28; (with_reducible refine (takes_word _).mono ?_); rintro e w2 ⟨rfl, rfl⟩)
    | (go_at_call 32; (with_reducible refine (C.out _).mono ?_); rintro e w2 ⟨rfl, rfl⟩)
    | (go_at_call 19; (with_reducible refine (int_any m _).mono ?_); rintro e w3 ⟨rfl, hb3⟩; have hz3 := (show w.heap.size + 1 < w3.heap.size by have := hb3.size; simp at this; omega); have h0 := fun o => hb3.cell (p := ⟨w.heap.size + 1, o, none⟩) (by simp; omega); have h1 := fun o => hb3.frozen (p := ⟨w.heap.size + 1, o, none⟩) (by simp; omega)))
  exact bodyPost_ret (v := .tuple #[tv 2 m, .int .i64 0]) (by simp [results, Tryz.results16, go_sem, h0, g2]) rfl ⟨rfl, b3 (hb2.trans (hb3.mono (by simp; omega))) (by omega) _ _ _⟩
end Go.Proofs.YtbghbfgbpdppeaaGreatDoor
