
/- Numbers or their error (cast.number), the op of two numbers by its number (cast.numbers), what each returns. -/
import Derived.Test.YtbghbfgbpdppeaaGreatDoorCastA
import Derived.Deep.RegionHeld3
namespace Go.Proofs.YtbghbfgbpdppeaaGreatDoor
open Go.ChangeShapes Go.WideShapes Go.ChangeAt Go.RowKit
set_option linter.unusedVariables false

theorem emptyE : ({ data := #[] } : ByteArray).toList.isEmpty = true := by decide +kernel
theorem okB_int (n : Int) : okB 2 n { data := #[] } = true := emptyE
theorem set3_in {w : World} {b : Nat} {x0 x1 x2 : Value} (y0 y1 y2 : Value) (h0 : w.cell? ⟨b, 0, none⟩ = some x0) (h1 : w.cell? ⟨b, 1, none⟩ = some x1) (h2 : w.cell? ⟨b, 2, none⟩ = some x2) :
    (((w.setCell ⟨b, 0, none⟩ y0).setCell ⟨b, 1, none⟩ y1).setCell ⟨b, 2, none⟩ y2).cell? ⟨b, 0, none⟩ = some y0 ∧
    (((w.setCell ⟨b, 0, none⟩ y0).setCell ⟨b, 1, none⟩ y1).setCell ⟨b, 2, none⟩ y2).cell? ⟨b, 1, none⟩ = some y1 ∧
    (((w.setCell ⟨b, 0, none⟩ y0).setCell ⟨b, 1, none⟩ y1).setCell ⟨b, 2, none⟩ y2).cell? ⟨b, 2, none⟩ = some y2 := by
  refine ⟨?_, ?_, ?_⟩
  · rw [World.cell?_setCell_other _ _ _ _ (by simp), World.cell?_setCell_other _ _ _ _ (by simp)]
    exact World.cell?_setCell_same _ _ _ h0
  · rw [World.cell?_setCell_other _ _ _ _ (by simp)]
    exact World.cell?_setCell_same _ _ _ (u := x1) (by rw [World.cell?_setCell_other _ _ _ _ (by simp)]; exact h1)
  · exact World.cell?_setCell_same _ _ _ (u := x2) (by rw [World.cell?_setCell_other _ _ _ _ (by simp), World.cell?_setCell_other _ _ _ _ (by simp)]; exact h2)
theorem set3_out {w : World} {b c : Nat} (y0 y1 y2 : Value) (h : b ≠ c) (o : Nat) : (((w.setCell ⟨b, 0, none⟩ y0).setCell ⟨b, 1, none⟩ y1).setCell ⟨b, 2, none⟩ y2).cell? ⟨c, o, none⟩ = w.cell? ⟨c, o, none⟩ := by
  rw [World.cell?_setCell_far _ _ _ _ h, World.cell?_setCell_far _ _ _ _ h, World.cell?_setCell_far _ _ _ _ h]
/-- six cells of two blocks; three of them stored as they are -/
theorem keep3a {w : World} {b c : Nat} {x0 x1 x2 z0 z1 z2 : Value} (hn : b ≠ c) (h : w.cell? ⟨b, 0, none⟩ = some x0 ∧ w.cell? ⟨b, 1, none⟩ = some x1 ∧ w.cell? ⟨b, 2, none⟩ = some x2 ∧ w.cell? ⟨c, 0, none⟩ = some z0 ∧ w.cell? ⟨c, 1, none⟩ = some z1 ∧ w.cell? ⟨c, 2, none⟩ = some z2) :
    (((w.setCell ⟨b, 0, none⟩ x0).setCell ⟨b, 1, none⟩ x1).setCell ⟨b, 2, none⟩ x2).cell? ⟨b, 0, none⟩ = some x0 ∧
    (((w.setCell ⟨b, 0, none⟩ x0).setCell ⟨b, 1, none⟩ x1).setCell ⟨b, 2, none⟩ x2).cell? ⟨b, 1, none⟩ = some x1 ∧
    (((w.setCell ⟨b, 0, none⟩ x0).setCell ⟨b, 1, none⟩ x1).setCell ⟨b, 2, none⟩ x2).cell? ⟨b, 2, none⟩ = some x2 ∧
    (((w.setCell ⟨b, 0, none⟩ x0).setCell ⟨b, 1, none⟩ x1).setCell ⟨b, 2, none⟩ x2).cell? ⟨c, 0, none⟩ = some z0 ∧
    (((w.setCell ⟨b, 0, none⟩ x0).setCell ⟨b, 1, none⟩ x1).setCell ⟨b, 2, none⟩ x2).cell? ⟨c, 1, none⟩ = some z1 ∧
    (((w.setCell ⟨b, 0, none⟩ x0).setCell ⟨b, 1, none⟩ x1).setCell ⟨b, 2, none⟩ x2).cell? ⟨c, 2, none⟩ = some z2 := by
  obtain ⟨h0, h1, h2, k0, k1, k2⟩ := h
  obtain ⟨g0, g1, g2⟩ := set3_in x0 x1 x2 h0 h1 h2
  exact ⟨g0, g1, g2, (set3_out _ _ _ hn 0).trans k0, (set3_out _ _ _ hn 1).trans k1, (set3_out _ _ _ hn 2).trans k2⟩
theorem keep3b {w : World} {b c : Nat} {x0 x1 x2 z0 z1 z2 : Value} (hn : c ≠ b) (h : w.cell? ⟨b, 0, none⟩ = some x0 ∧ w.cell? ⟨b, 1, none⟩ = some x1 ∧ w.cell? ⟨b, 2, none⟩ = some x2 ∧ w.cell? ⟨c, 0, none⟩ = some z0 ∧ w.cell? ⟨c, 1, none⟩ = some z1 ∧ w.cell? ⟨c, 2, none⟩ = some z2) :
    (((w.setCell ⟨c, 0, none⟩ z0).setCell ⟨c, 1, none⟩ z1).setCell ⟨c, 2, none⟩ z2).cell? ⟨b, 0, none⟩ = some x0 ∧
    (((w.setCell ⟨c, 0, none⟩ z0).setCell ⟨c, 1, none⟩ z1).setCell ⟨c, 2, none⟩ z2).cell? ⟨b, 1, none⟩ = some x1 ∧
    (((w.setCell ⟨c, 0, none⟩ z0).setCell ⟨c, 1, none⟩ z1).setCell ⟨c, 2, none⟩ z2).cell? ⟨b, 2, none⟩ = some x2 ∧
    (((w.setCell ⟨c, 0, none⟩ z0).setCell ⟨c, 1, none⟩ z1).setCell ⟨c, 2, none⟩ z2).cell? ⟨c, 0, none⟩ = some z0 ∧
    (((w.setCell ⟨c, 0, none⟩ z0).setCell ⟨c, 1, none⟩ z1).setCell ⟨c, 2, none⟩ z2).cell? ⟨c, 1, none⟩ = some z1 ∧
    (((w.setCell ⟨c, 0, none⟩ z0).setCell ⟨c, 1, none⟩ z1).setCell ⟨c, 2, none⟩ z2).cell? ⟨c, 2, none⟩ = some z2 := by
  obtain ⟨h0, h1, h2, k0, k1, k2⟩ := h
  obtain ⟨g0, g1, g2⟩ := set3_in z0 z1 z2 k0 k1 k2
  exact ⟨(set3_out _ _ _ hn 0).trans h0, (set3_out _ _ _ hn 1).trans h1, (set3_out _ _ _ hn 2).trans h2, g0, g1, g2⟩
theorem number_ok (n : Int) (w : World) : Calls Tryz.prog 26 #[.int .i64 n, .int .i64 0] w fun e w' => e = .returned (.tuple #[tv 2 n, .int .i64 0]) ∧ Below w.heap.size w w' := by
  go_enter Tryz.func26, Tryz.ntmps26
  go_wp2_with (go_at_call 19; (with_reducible refine (int_any n _).mono ?_); rintro e w1 ⟨rfl, hb⟩; obtain ⟨hc, hf⟩ := bcell hb; have hz : w.heap.size < w1.heap.size := (by have := hb.size; simp at this; omega))
  exact bodyPost_ret (v := .tuple #[tv 2 n, .int .i64 0]) (by simp [results, Tryz.results26, go_sem, hc]) rfl ⟨rfl, b3 (bafter hb) (by omega) _ _ _⟩
theorem number_no (n e : Int) (he : (e != 0) = true) (w : World) : Calls Tryz.prog 26 #[.int .i64 n, .int .i64 e] w fun e1 w' => e1 = .returned (.tuple #[tv 0 0, .int .i64 e]) ∧ Below w.heap.size w w' := by
  go_enter Tryz.func26, Tryz.ntmps26
  go_wp2_with (go_at_call 18; (with_reducible refine (null_any _).mono ?_); rintro e w1 ⟨rfl, hb⟩; obtain ⟨hc, hf⟩ := bcell hb; have hz : w.heap.size < w1.heap.size := (by have := hb.size; simp at this; omega))
  exact bodyPost_ret (v := .tuple #[tv 0 0, .int .i64 e]) (by simp [results, Tryz.results26, go_sem, hc]) rfl ⟨rfl, b3 (bafter hb) (by omega) _ _ _⟩

theorem numbers_12 (w : World) : Calls Tryz.prog 25 #[.int .i64 12] w fun e w' => e = .returned (.tuple #[.func (.func 42) #[] #[], .bool true]) ∧ w = w' := by
  go_enter Tryz.func25, Tryz.ntmps25
  go_wp2
  go_ret2
  exact ⟨rfl, rfl⟩
theorem numbers_14 (w : World) : Calls Tryz.prog 25 #[.int .i64 14] w fun e w' => e = .returned (.tuple #[.func (.func 44) #[] #[], .bool true]) ∧ w = w' := by
  go_enter Tryz.func25, Tryz.ntmps25
  go_wp2
  go_ret2
  exact ⟨rfl, rfl⟩
theorem numbers_15 (w : World) : Calls Tryz.prog 25 #[.int .i64 15] w fun e w' => e = .returned (.tuple #[.func (.func 45) #[] #[], .bool true]) ∧ w = w' := by
  go_enter Tryz.func25, Tryz.ntmps25
  go_wp2
  go_ret2
  exact ⟨rfl, rfl⟩
theorem numbers_16 (w : World) : Calls Tryz.prog 25 #[.int .i64 16] w fun e w' => e = .returned (.tuple #[.func (.func 46) #[] #[], .bool true]) ∧ w = w' := by
  go_enter Tryz.func25, Tryz.ntmps25
  go_wp2
  go_ret2
  exact ⟨rfl, rfl⟩
theorem bitf_14 (a b : Int) (w : World) : Calls Tryz.prog 44 #[.int .i64 a, .int .i64 b] w fun e w' => e = .returned (.tuple #[.int .i64 (bits .and .i64 a b), .int .i64 0]) ∧ w = w' := by
  go_enter Tryz.func44, Tryz.ntmps44
  go_wp2
  go_ret2
  exact ⟨rfl, rfl⟩
theorem bitf_15 (a b : Int) (w : World) : Calls Tryz.prog 45 #[.int .i64 a, .int .i64 b] w fun e w' => e = .returned (.tuple #[.int .i64 (bits .or .i64 a b), .int .i64 0]) ∧ w = w' := by
  go_enter Tryz.func45, Tryz.ntmps45
  go_wp2
  go_ret2
  exact ⟨rfl, rfl⟩
theorem bitf_16 (a b : Int) (w : World) : Calls Tryz.prog 46 #[.int .i64 a, .int .i64 b] w fun e w' => e = .returned (.tuple #[.int .i64 (bits .xor .i64 a b), .int .i64 0]) ∧ w = w' := by
  go_enter Tryz.func46, Tryz.ntmps46
  go_wp2
  go_ret2
  exact ⟨rfl, rfl⟩
end Go.Proofs.YtbghbfgbpdppeaaGreatDoor
