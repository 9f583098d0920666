
/- cast.To: a text as a truth. -/
import Derived.Test.YtbghbfgbpdppeaaGreatDoorCastN
import Derived.Test.YtbghbfgbpdppeaaGreatDoorTextL
namespace Go.Proofs.YtbghbfgbpdppeaaGreatDoor
open Go.ChangeShapes Go.WideShapes Go.ChangeAt Go.RowKit
set_option linter.unusedVariables false

set_option maxRecDepth 100000 in
theorem read_bool (s : ByteArray) (w : World) (hs : s.size ≤ 1000) (hT : TabsX w) :
    Calls Tryz.prog 23 #[.string s, .int .i64 1] w fun e w' => ∃ k n er, e = .returned (.tuple #[tv k n, .int .i64 er]) ∧ Below w.heap.size w w' := by
  have C := fun W (hb : Below w.heap.size w W) => Tx.FoldText_any s W (by omega) (hT.below hb).2.1
  generalize (⟨(Tx.fdB (Tx.bl s)).toArray⟩ : ByteArray) = t at C
  replace C := Lib.hid C
  clear hT hs
  go_enter Tryz.func23, Tryz.ntmps23
  go_wp2_with (first
    | (go_at_call 30; (with_reducible refine (C.out _ (balloc _ _)).mono ?_); rintro e w1 ⟨rfl, hb1⟩; have hb2 := btr (balloc _ _) hb1; have hz1 := (show w.heap.size < w1.heap.size by have := hb1.size; simp at this; omega))
    | (go_at_call 20; (with_reducible refine (vbool_any true _).mono ?_); rintro e w3 ⟨rfl, hb4⟩; have hb5 := hb1.trans (hb4.mono hb1.size); have hz3 := (show w.heap.size < w3.heap.size by have := hb5.size; simp at this; omega); have g0 := fun o => hb5.cell (p := ⟨w.heap.size, o, none⟩) (by simp); have g1 := fun o => hb5.frozen (p := ⟨w.heap.size, o, none⟩) (by simp))
    | (go_at_call 20; (with_reducible refine (vbool_any false _).mono ?_); rintro e w3 ⟨rfl, hb4⟩; have hb5 := hb1.trans (hb4.mono hb1.size); have hz3 := (show w.heap.size < w3.heap.size by have := hb5.size; simp at this; omega); have g0 := fun o => hb5.cell (p := ⟨w.heap.size, o, none⟩) (by simp); have g1 := fun o => hb5.frozen (p := ⟨w.heap.size, o, none⟩) (by simp))
    | (go_at_call 18; (with_reducible refine (null_any _).mono ?_); rintro e w3 ⟨rfl, hb4⟩; have hb5 := hb1.trans (hb4.mono hb1.size); have hz3 := (show w.heap.size < w3.heap.size by have := hb5.size; simp at this; omega); have g0 := fun o => hb5.cell (p := ⟨w.heap.size, o, none⟩) (by simp); have g1 := fun o => hb5.frozen (p := ⟨w.heap.size, o, none⟩) (by simp)))
  · exact bodyPost_ret (v := .tuple #[tv 1 1, .int .i64 0]) (by simp [results, Tryz.results23, go_sem, g0, b2t]) rfl ⟨_, _, _, rfl, b3 (bafter hb5) (by omega) _ _ _⟩
  · exact bodyPost_ret (v := .tuple #[tv 1 0, .int .i64 0]) (by simp [results, Tryz.results23, go_sem, g0, b2t]) rfl ⟨_, _, _, rfl, b3 (bafter hb5) (by omega) _ _ _⟩
  · exact bodyPost_ret (v := .tuple #[tv 0 0, .int .i64 20]) (by simp [results, Tryz.results23, go_sem, g0]) rfl ⟨_, _, _, rfl, b3 (bafter hb5) (by omega) _ _ _⟩

set_option maxRecDepth 100000 in
theorem to_text_bool (s : ByteArray) (w : World) (hs : s.size ≤ 1000) (hT : TabsX w) :
    Calls Tryz.prog 8 #[gv 3 0 s, .int .i64 1] w fun e w' => ∃ k n er, e = .returned (.tuple #[tv k n, .int .i64 er]) ∧ Below w.heap.size w w' := by
  have q12 : ∀ w, (binOp .eql 41 (.agg #[.int .i64 3, .int .i64 1]) (.agg #[.int .i64 1, .int .i64 2])).run Tryz.prog w = .ok (.bool false) w := fun _ => by kernel_rfl
  have q21 : ∀ w, (binOp .eql 41 (.agg #[.int .i64 3, .int .i64 1]) (.agg #[.int .i64 2, .int .i64 1])).run Tryz.prog w = .ok (.bool false) w := fun _ => by kernel_rfl
  have q13 : ∀ w, (binOp .eql 41 (.agg #[.int .i64 3, .int .i64 1]) (.agg #[.int .i64 1, .int .i64 3])).run Tryz.prog w = .ok (.bool false) w := fun _ => by kernel_rfl
  have q23 : ∀ w, (binOp .eql 41 (.agg #[.int .i64 3, .int .i64 1]) (.agg #[.int .i64 2, .int .i64 3])).run Tryz.prog w = .ok (.bool false) w := fun _ => by kernel_rfl
  have I := Lib.hid (fun W => is_yes 3 0 s W (rfl))
  have C := Lib.hid (fun W (hb : Below w.heap.size w W) => read_bool s W hs (hT.below hb))
  clear hT
  go_enter Tryz.func8, Tryz.ntmps8
  go_wp2_with (first
    | (go_at_call 17; (with_reducible refine (I.out _).mono ?_); rintro e w1 ⟨rfl, hb1⟩; have hz1 := (show w.heap.size + 1 < w1.heap.size by have := hb1.size; simp at this; omega); have g0 := fun o => hb1.cell (p := ⟨w.heap.size, o, none⟩) (by simp; omega); have g1 := fun o => hb1.frozen (p := ⟨w.heap.size, o, none⟩) (by simp; omega); have g2 := fun o => hb1.cell (p := ⟨w.heap.size + 1, o, none⟩) (by simp); have g3 := fun o => hb1.frozen (p := ⟨w.heap.size + 1, o, none⟩) (by simp); have hb2 := b3 (bafter2 hb1) (Nat.le_refl _) (.int .i64 3) (.int .i64 0) (.string s))
    | (go_at_call 23; (with_reducible refine (C.out _ hb2).mono ?_); rintro e w3 ⟨k, n, er, rfl, hb3⟩; have hz3 := (show w.heap.size + 1 < w3.heap.size by have := hb3.size; simp at this; omega); have h0 := fun o => hb3.cell (p := ⟨w.heap.size + 1, o, none⟩) (by simp; omega); have h1 := fun o => hb3.frozen (p := ⟨w.heap.size + 1, o, none⟩) (by simp; omega)))
  exact bodyPost_ret (v := .tuple #[tv k n, .int .i64 er]) (by simp [results, Tryz.results8, go_sem, h0, g2]) rfl ⟨k, n, er, rfl, b3 (hb2.trans (hb3.mono (by simp; omega))) (by omega) _ _ _⟩
end Go.Proofs.YtbghbfgbpdppeaaGreatDoor
