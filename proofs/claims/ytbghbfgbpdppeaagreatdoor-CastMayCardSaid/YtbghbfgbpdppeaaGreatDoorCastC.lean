
/- cast.Binary of two numbers at the ops <<, &, |, ^: what it returns. -/
import Derived.Test.YtbghbfgbpdppeaaGreatDoorCastB
import Derived.Test.YtbghbfgbpdppeaaGreatDoorQuietTail
import Derived.Lib.QuietBelow
namespace Go.Proofs.YtbghbfgbpdppeaaGreatDoor
open Go.ChangeShapes Go.WideShapes Go.ChangeAt Go.RowKit Go.Sort
set_option linter.unusedVariables false

/-- the world of a region, under one name -/
theorem wp_world {P : Program} {c : Code} {Q : Exit → Act → World → Prop} {a : Act} {w : World} (h : ∀ W, W = w → c.wp P Q a W) : c.wp P Q a w := h w rfl

set_option maxHeartbeats 400000 in
set_option maxRecDepth 100000 in
theorem bin_14 (a b : Int) (most : Int) (w : World) : Calls Tryz.prog 14 #[.int .i64 14, tv 2 a, tv 2 b, .int .i64 most] w fun e w' => e = .returned (.tuple #[tv 2 (bits .and .i64 a b), .int .i64 0]) ∧ Below w.heap.size w w' := by
  have q22 : ∀ w, (binOp .eql 41 (.agg #[.int .i64 2, .int .i64 2]) (.agg #[.int .i64 2, .int .i64 2])).run Tryz.prog w = .ok (.bool true) w := fun _ => by kernel_rfl
  have I := fun (x : Int) W => is_yes 2 x { data := #[] } W (okB_int x)
  go_enter Tryz.func14, Tryz.ntmps14
  go_wp2_with fail
  refine wp_world (fun W hW => ?_)
  have hb0 : Below w.heap.size w W := by rw [hW]; exact balloc3 w _ _ _
  have hz : w.heap.size + 2 < W.heap.size := by rw [hW]; simp
  have c0 : W.cell? ⟨w.heap.size, 0, none⟩ = some (.int .i64 2) := by rw [hW]; simp [go_sem]
  have c1 : W.cell? ⟨w.heap.size, 1, none⟩ = some (.int .i64 a) := by rw [hW]; simp [go_sem]
  have c2 : W.cell? ⟨w.heap.size, 2, none⟩ = some (.string { data := #[] }) := by rw [hW]; simp [go_sem]
  have d0 : W.cell? ⟨w.heap.size + 1, 0, none⟩ = some (.int .i64 2) := by rw [hW]; simp [go_sem]
  have d1 : W.cell? ⟨w.heap.size + 1, 1, none⟩ = some (.int .i64 b) := by rw [hW]; simp [go_sem]
  have d2 : W.cell? ⟨w.heap.size + 1, 2, none⟩ = some (.string { data := #[] }) := by rw [hW]; simp [go_sem]
  have r0 : W.cell? ⟨w.heap.size + 1 + 1, 0, none⟩ = some (.int .i64 0) := by rw [hW]; simp [go_sem]
  have r1 : W.cell? ⟨w.heap.size + 1 + 1, 1, none⟩ = some (.int .i64 0) := by rw [hW]; simp [go_sem]
  have r2 : W.cell? ⟨w.heap.size + 1 + 1, 2, none⟩ = some (.string { data := #[] }) := by rw [hW]; simp [go_sem]
  have f0 : ∀ o, W.frozen? ⟨w.heap.size, o, none⟩ = false := by intro o; rw [hW]; simp [go_sem]
  have f1 : ∀ o, W.frozen? ⟨w.heap.size + 1, o, none⟩ = false := by intro o; rw [hW]; simp [go_sem]
  have f2 : ∀ o, W.frozen? ⟨w.heap.size + 1 + 1, o, none⟩ = false := by intro o; rw [hW]; simp [go_sem]
  clear hW
  have k0 := cell_regrown c0
  have k1 := cell_regrown c1
  have k2 := cell_regrown c2
  have j0 := cell_regrown d0
  have j1 := cell_regrown d1
  have j2 := cell_regrown d2
  refine wp_region_below_tail 4 (by kernel_rfl) (by kernel_rfl) ?_
  simp only [List.take_succ_cons, List.take_zero, List.drop_succ_cons, List.drop_zero]
  repeat (quiet_step (first | (with_reducible exact Calls.regrown_of (I a _)) | (with_reducible exact Calls.regrown_of (I b _))))
  refine wpQuiet_nil ?_
  intro _ hw'
  obtain ⟨⟨dq, osq⟩, hw''⟩ := hw'
  subst hw''
  have hb1 := below_regrown W dq osq
  generalize grow (redrawn W dq) osq = w1 at *
  have hb2 := hb0.trans (hb1.mono hb0.size)
  have hz1 : w.heap.size + 2 < w1.heap.size := by have := hb1.size; omega
  replace c0 := (hb1.cell (p := ⟨w.heap.size, 0, none⟩) (by simp only; omega)).trans c0
  replace c1 := (hb1.cell (p := ⟨w.heap.size, 1, none⟩) (by simp only; omega)).trans c1
  replace c2 := (hb1.cell (p := ⟨w.heap.size, 2, none⟩) (by simp only; omega)).trans c2
  replace d0 := (hb1.cell (p := ⟨w.heap.size + 1, 0, none⟩) (by simp only; omega)).trans d0
  replace d1 := (hb1.cell (p := ⟨w.heap.size + 1, 1, none⟩) (by simp only; omega)).trans d1
  replace d2 := (hb1.cell (p := ⟨w.heap.size + 1, 2, none⟩) (by simp only; omega)).trans d2
  replace r0 := (hb1.cell (p := ⟨w.heap.size + 1 + 1, 0, none⟩) (by simp only; omega)).trans r0
  replace r1 := (hb1.cell (p := ⟨w.heap.size + 1 + 1, 1, none⟩) (by simp only; omega)).trans r1
  replace r2 := (hb1.cell (p := ⟨w.heap.size + 1 + 1, 2, none⟩) (by simp only; omega)).trans r2
  replace f0 := fun o => (hb1.frozen (p := ⟨w.heap.size, o, none⟩) (by simp only; omega)).trans (f0 o)
  replace f1 := fun o => (hb1.frozen (p := ⟨w.heap.size + 1, o, none⟩) (by simp only; omega)).trans (f1 o)
  replace f2 := fun o => (hb1.frozen (p := ⟨w.heap.size + 1 + 1, o, none⟩) (by simp only; omega)).trans (f2 o)
  clear k0 k1 k2 j0 j1 j2 hb0 hb1 hz I
  go_wp2_with fail
  go_wp2_with (first
    | (go_at_call 25; (with_reducible refine (numbers_14 _).mono ?_); rintro e w2 ⟨rfl, rfl⟩)
    | (go_at_call 44; (with_reducible refine (bitf_14 a b _).mono ?_); rintro e w2 ⟨rfl, rfl⟩)
    | (go_at_call 26; (with_reducible refine (number_ok (bits .and .i64 a b) _).mono ?_); rintro e w3 ⟨rfl, hb3⟩; have hz3 := (show w.heap.size + 2 < w3.heap.size by have := hb3.size; simp at this; omega); have g0 := fun o => hb3.cell (p := ⟨w.heap.size + 1 + 1, o, none⟩) (by simp; omega); have g1 := fun o => hb3.frozen (p := ⟨w.heap.size + 1 + 1, o, none⟩) (by simp; omega)))
  exact bodyPost_ret (v := .tuple #[tv 2 (bits .and .i64 a b), .int .i64 0]) (by simp [results, Tryz.results14, go_sem, g0, r0, r1, r2]) rfl ⟨rfl, b3 ((b3 (b3 hb2 (Nat.le_refl _) _ _ _) (by omega) _ _ _).trans (hb3.mono (by have := hb2.size; simp; omega))) (by omega) _ _ _⟩

set_option maxHeartbeats 400000 in
set_option maxRecDepth 100000 in
theorem bin_15 (a b : Int) (most : Int) (w : World) : Calls Tryz.prog 14 #[.int .i64 15, tv 2 a, tv 2 b, .int .i64 most] w fun e w' => e = .returned (.tuple #[tv 2 (bits .or .i64 a b), .int .i64 0]) ∧ Below w.heap.size w w' := by
  have q22 : ∀ w, (binOp .eql 41 (.agg #[.int .i64 2, .int .i64 2]) (.agg #[.int .i64 2, .int .i64 2])).run Tryz.prog w = .ok (.bool true) w := fun _ => by kernel_rfl
  have I := fun (x : Int) W => is_yes 2 x { data := #[] } W (okB_int x)
  go_enter Tryz.func14, Tryz.ntmps14
  go_wp2_with fail
  refine wp_world (fun W hW => ?_)
  have hb0 : Below w.heap.size w W := by rw [hW]; exact balloc3 w _ _ _
  have hz : w.heap.size + 2 < W.heap.size := by rw [hW]; simp
  have c0 : W.cell? ⟨w.heap.size, 0, none⟩ = some (.int .i64 2) := by rw [hW]; simp [go_sem]
  have c1 : W.cell? ⟨w.heap.size, 1, none⟩ = some (.int .i64 a) := by rw [hW]; simp [go_sem]
  have c2 : W.cell? ⟨w.heap.size, 2, none⟩ = some (.string { data := #[] }) := by rw [hW]; simp [go_sem]
  have d0 : W.cell? ⟨w.heap.size + 1, 0, none⟩ = some (.int .i64 2) := by rw [hW]; simp [go_sem]
  have d1 : W.cell? ⟨w.heap.size + 1, 1, none⟩ = some (.int .i64 b) := by rw [hW]; simp [go_sem]
  have d2 : W.cell? ⟨w.heap.size + 1, 2, none⟩ = some (.string { data := #[] }) := by rw [hW]; simp [go_sem]
  have r0 : W.cell? ⟨w.heap.size + 1 + 1, 0, none⟩ = some (.int .i64 0) := by rw [hW]; simp [go_sem]
  have r1 : W.cell? ⟨w.heap.size + 1 + 1, 1, none⟩ = some (.int .i64 0) := by rw [hW]; simp [go_sem]
  have r2 : W.cell? ⟨w.heap.size + 1 + 1, 2, none⟩ = some (.string { data := #[] }) := by rw [hW]; simp [go_sem]
  have f0 : ∀ o, W.frozen? ⟨w.heap.size, o, none⟩ = false := by intro o; rw [hW]; simp [go_sem]
  have f1 : ∀ o, W.frozen? ⟨w.heap.size + 1, o, none⟩ = false := by intro o; rw [hW]; simp [go_sem]
  have f2 : ∀ o, W.frozen? ⟨w.heap.size + 1 + 1, o, none⟩ = false := by intro o; rw [hW]; simp [go_sem]
  clear hW
  have k0 := cell_regrown c0
  have k1 := cell_regrown c1
  have k2 := cell_regrown c2
  have j0 := cell_regrown d0
  have j1 := cell_regrown d1
  have j2 := cell_regrown d2
  refine wp_region_below_tail 4 (by kernel_rfl) (by kernel_rfl) ?_
  simp only [List.take_succ_cons, List.take_zero, List.drop_succ_cons, List.drop_zero]
  repeat (quiet_step (first | (with_reducible exact Calls.regrown_of (I a _)) | (with_reducible exact Calls.regrown_of (I b _))))
  refine wpQuiet_nil ?_
  intro _ hw'
  obtain ⟨⟨dq, osq⟩, hw''⟩ := hw'
  subst hw''
  have hb1 := below_regrown W dq osq
  generalize grow (redrawn W dq) osq = w1 at *
  have hb2 := hb0.trans (hb1.mono hb0.size)
  have hz1 : w.heap.size + 2 < w1.heap.size := by have := hb1.size; omega
  replace c0 := (hb1.cell (p := ⟨w.heap.size, 0, none⟩) (by simp only; omega)).trans c0
  replace c1 := (hb1.cell (p := ⟨w.heap.size, 1, none⟩) (by simp only; omega)).trans c1
  replace c2 := (hb1.cell (p := ⟨w.heap.size, 2, none⟩) (by simp only; omega)).trans c2
  replace d0 := (hb1.cell (p := ⟨w.heap.size + 1, 0, none⟩) (by simp only; omega)).trans d0
  replace d1 := (hb1.cell (p := ⟨w.heap.size + 1, 1, none⟩) (by simp only; omega)).trans d1
  replace d2 := (hb1.cell (p := ⟨w.heap.size + 1, 2, none⟩) (by simp only; omega)).trans d2
  replace r0 := (hb1.cell (p := ⟨w.heap.size + 1 + 1, 0, none⟩) (by simp only; omega)).trans r0
  replace r1 := (hb1.cell (p := ⟨w.heap.size + 1 + 1, 1, none⟩) (by simp only; omega)).trans r1
  replace r2 := (hb1.cell (p := ⟨w.heap.size + 1 + 1, 2, none⟩) (by simp only; omega)).trans r2
  replace f0 := fun o => (hb1.frozen (p := ⟨w.heap.size, o, none⟩) (by simp only; omega)).trans (f0 o)
  replace f1 := fun o => (hb1.frozen (p := ⟨w.heap.size + 1, o, none⟩) (by simp only; omega)).trans (f1 o)
  replace f2 := fun o => (hb1.frozen (p := ⟨w.heap.size + 1 + 1, o, none⟩) (by simp only; omega)).trans (f2 o)
  clear k0 k1 k2 j0 j1 j2 hb0 hb1 hz I
  go_wp2_with fail
  go_wp2_with (first
    | (go_at_call 25; (with_reducible refine (numbers_15 _).mono ?_); rintro e w2 ⟨rfl, rfl⟩)
    | (go_at_call 45; (with_reducible refine (bitf_15 a b _).mono ?_); rintro e w2 ⟨rfl, rfl⟩)
    | (go_at_call 26; (with_reducible refine (number_ok (bits .or .i64 a b) _).mono ?_); rintro e w3 ⟨rfl, hb3⟩; have hz3 := (show w.heap.size + 2 < w3.heap.size by have := hb3.size; simp at this; omega); have g0 := fun o => hb3.cell (p := ⟨w.heap.size + 1 + 1, o, none⟩) (by simp; omega); have g1 := fun o => hb3.frozen (p := ⟨w.heap.size + 1 + 1, o, none⟩) (by simp; omega)))
  exact bodyPost_ret (v := .tuple #[tv 2 (bits .or .i64 a b), .int .i64 0]) (by simp [results, Tryz.results14, go_sem, g0, r0, r1, r2]) rfl ⟨rfl, b3 ((b3 (b3 hb2 (Nat.le_refl _) _ _ _) (by omega) _ _ _).trans (hb3.mono (by have := hb2.size; simp; omega))) (by omega) _ _ _⟩

set_option maxHeartbeats 400000 in
set_option maxRecDepth 100000 in
theorem bin_16 (a b : Int) (most : Int) (w : World) : Calls Tryz.prog 14 #[.int .i64 16, tv 2 a, tv 2 b, .int .i64 most] w fun e w' => e = .returned (.tuple #[tv 2 (bits .xor .i64 a b), .int .i64 0]) ∧ Below w.heap.size w w' := by
  have q22 : ∀ w, (binOp .eql 41 (.agg #[.int .i64 2, .int .i64 2]) (.agg #[.int .i64 2, .int .i64 2])).run Tryz.prog w = .ok (.bool true) w := fun _ => by kernel_rfl
  have I := fun (x : Int) W => is_yes 2 x { data := #[] } W (okB_int x)
  go_enter Tryz.func14, Tryz.ntmps14
  go_wp2_with fail
  refine wp_world (fun W hW => ?_)
  have hb0 : Below w.heap.size w W := by rw [hW]; exact balloc3 w _ _ _
  have hz : w.heap.size + 2 < W.heap.size := by rw [hW]; simp
  have c0 : W.cell? ⟨w.heap.size, 0, none⟩ = some (.int .i64 2) := by rw [hW]; simp [go_sem]
  have c1 : W.cell? ⟨w.heap.size, 1, none⟩ = some (.int .i64 a) := by rw [hW]; simp [go_sem]
  have c2 : W.cell? ⟨w.heap.size, 2, none⟩ = some (.string { data := #[] }) := by rw [hW]; simp [go_sem]
  have d0 : W.cell? ⟨w.heap.size + 1, 0, none⟩ = some (.int .i64 2) := by rw [hW]; simp [go_sem]
  have d1 : W.cell? ⟨w.heap.size + 1, 1, none⟩ = some (.int .i64 b) := by rw [hW]; simp [go_sem]
  have d2 : W.cell? ⟨w.heap.size + 1, 2, none⟩ = some (.string { data := #[] }) := by rw [hW]; simp [go_sem]
  have r0 : W.cell? ⟨w.heap.size + 1 + 1, 0, none⟩ = some (.int .i64 0) := by rw [hW]; simp [go_sem]
  have r1 : W.cell? ⟨w.heap.size + 1 + 1, 1, none⟩ = some (.int .i64 0) := by rw [hW]; simp [go_sem]
  have r2 : W.cell? ⟨w.heap.size + 1 + 1, 2, none⟩ = some (.string { data := #[] }) := by rw [hW]; simp [go_sem]
  have f0 : ∀ o, W.frozen? ⟨w.heap.size, o, none⟩ = false := by intro o; rw [hW]; simp [go_sem]
  have f1 : ∀ o, W.frozen? ⟨w.heap.size + 1, o, none⟩ = false := by intro o; rw [hW]; simp [go_sem]
  have f2 : ∀ o, W.frozen? ⟨w.heap.size + 1 + 1, o, none⟩ = false := by intro o; rw [hW]; simp [go_sem]
  clear hW
  have k0 := cell_regrown c0
  have k1 := cell_regrown c1
  have k2 := cell_regrown c2
  have j0 := cell_regrown d0
  have j1 := cell_regrown d1
  have j2 := cell_regrown d2
  refine wp_region_below_tail 4 (by kernel_rfl) (by kernel_rfl) ?_
  simp only [List.take_succ_cons, List.take_zero, List.drop_succ_cons, List.drop_zero]
  repeat (quiet_step (first | (with_reducible exact Calls.regrown_of (I a _)) | (with_reducible exact Calls.regrown_of (I b _))))
  refine wpQuiet_nil ?_
  intro _ hw'
  obtain ⟨⟨dq, osq⟩, hw''⟩ := hw'
  subst hw''
  have hb1 := below_regrown W dq osq
  generalize grow (redrawn W dq) osq = w1 at *
  have hb2 := hb0.trans (hb1.mono hb0.size)
  have hz1 : w.heap.size + 2 < w1.heap.size := by have := hb1.size; omega
  replace c0 := (hb1.cell (p := ⟨w.heap.size, 0, none⟩) (by simp only; omega)).trans c0
  replace c1 := (hb1.cell (p := ⟨w.heap.size, 1, none⟩) (by simp only; omega)).trans c1
  replace c2 := (hb1.cell (p := ⟨w.heap.size, 2, none⟩) (by simp only; omega)).trans c2
  replace d0 := (hb1.cell (p := ⟨w.heap.size + 1, 0, none⟩) (by simp only; omega)).trans d0
  replace d1 := (hb1.cell (p := ⟨w.heap.size + 1, 1, none⟩) (by simp only; omega)).trans d1
  replace d2 := (hb1.cell (p := ⟨w.heap.size + 1, 2, none⟩) (by simp only; omega)).trans d2
  replace r0 := (hb1.cell (p := ⟨w.heap.size + 1 + 1, 0, none⟩) (by simp only; omega)).trans r0
  replace r1 := (hb1.cell (p := ⟨w.heap.size + 1 + 1, 1, none⟩) (by simp only; omega)).trans r1
  replace r2 := (hb1.cell (p := ⟨w.heap.size + 1 + 1, 2, none⟩) (by simp only; omega)).trans r2
  replace f0 := fun o => (hb1.frozen (p := ⟨w.heap.size, o, none⟩) (by simp only; omega)).trans (f0 o)
  replace f1 := fun o => (hb1.frozen (p := ⟨w.heap.size + 1, o, none⟩) (by simp only; omega)).trans (f1 o)
  replace f2 := fun o => (hb1.frozen (p := ⟨w.heap.size + 1 + 1, o, none⟩) (by simp only; omega)).trans (f2 o)
  clear k0 k1 k2 j0 j1 j2 hb0 hb1 hz I
  go_wp2_with fail
  go_wp2_with (first
    | (go_at_call 25; (with_reducible refine (numbers_16 _).mono ?_); rintro e w2 ⟨rfl, rfl⟩)
    | (go_at_call 46; (with_reducible refine (bitf_16 a b _).mono ?_); rintro e w2 ⟨rfl, rfl⟩)
    | (go_at_call 26; (with_reducible refine (number_ok (bits .xor .i64 a b) _).mono ?_); rintro e w3 ⟨rfl, hb3⟩; have hz3 := (show w.heap.size + 2 < w3.heap.size by have := hb3.size; simp at this; omega); have g0 := fun o => hb3.cell (p := ⟨w.heap.size + 1 + 1, o, none⟩) (by simp; omega); have g1 := fun o => hb3.frozen (p := ⟨w.heap.size + 1 + 1, o, none⟩) (by simp; omega)))
  exact bodyPost_ret (v := .tuple #[tv 2 (bits .xor .i64 a b), .int .i64 0]) (by simp [results, Tryz.results14, go_sem, g0, r0, r1, r2]) rfl ⟨rfl, b3 ((b3 (b3 hb2 (Nat.le_refl _) _ _ _) (by omega) _ _ _).trans (hb3.mono (by have := hb2.size; simp; omega))) (by omega) _ _ _⟩

set_option maxHeartbeats 400000 in
set_option maxRecDepth 100000 in
theorem shl_64 (w : World) : Calls Tryz.prog 42 #[.int .i64 1, .int .i64 64] w fun e w' => e = .returned (.tuple #[.int .i64 0, .int .i64 19]) ∧ w = w' :=
  (shl_any 1 64 w).mono fun e w' ⟨he, hw⟩ => ⟨he.trans (ret2 (by decide +kernel) (by decide +kernel)), hw⟩
set_option maxHeartbeats 400000 in
set_option maxRecDepth 100000 in
theorem bin_12 (most : Int) (w : World) : Calls Tryz.prog 14 #[.int .i64 12, tv 2 1, tv 2 64, .int .i64 most] w fun e w' => e = .returned (.tuple #[tv 0 0, .int .i64 19]) ∧ Below w.heap.size w w' := by
  have q22 : ∀ w, (binOp .eql 41 (.agg #[.int .i64 2, .int .i64 2]) (.agg #[.int .i64 2, .int .i64 2])).run Tryz.prog w = .ok (.bool true) w := fun _ => by kernel_rfl
  have I := fun (x : Int) W => is_yes 2 x { data := #[] } W (okB_int x)
  go_enter Tryz.func14, Tryz.ntmps14
  go_wp2_with fail
  refine wp_world (fun W hW => ?_)
  have hb0 : Below w.heap.size w W := by rw [hW]; exact balloc3 w _ _ _
  have hz : w.heap.size + 2 < W.heap.size := by rw [hW]; simp
  have c0 : W.cell? ⟨w.heap.size, 0, none⟩ = some (.int .i64 2) := by rw [hW]; simp [go_sem]
  have c1 : W.cell? ⟨w.heap.size, 1, none⟩ = some (.int .i64 1) := by rw [hW]; simp [go_sem]
  have c2 : W.cell? ⟨w.heap.size, 2, none⟩ = some (.string { data := #[] }) := by rw [hW]; simp [go_sem]
  have d0 : W.cell? ⟨w.heap.size + 1, 0, none⟩ = some (.int .i64 2) := by rw [hW]; simp [go_sem]
  have d1 : W.cell? ⟨w.heap.size + 1, 1, none⟩ = some (.int .i64 64) := by rw [hW]; simp [go_sem]
  have d2 : W.cell? ⟨w.heap.size + 1, 2, none⟩ = some (.string { data := #[] }) := by rw [hW]; simp [go_sem]
  have r0 : W.cell? ⟨w.heap.size + 1 + 1, 0, none⟩ = some (.int .i64 0) := by rw [hW]; simp [go_sem]
  have r1 : W.cell? ⟨w.heap.size + 1 + 1, 1, none⟩ = some (.int .i64 0) := by rw [hW]; simp [go_sem]
  have r2 : W.cell? ⟨w.heap.size + 1 + 1, 2, none⟩ = some (.string { data := #[] }) := by rw [hW]; simp [go_sem]
  have f0 : ∀ o, W.frozen? ⟨w.heap.size, o, none⟩ = false := by intro o; rw [hW]; simp [go_sem]
  have f1 : ∀ o, W.frozen? ⟨w.heap.size + 1, o, none⟩ = false := by intro o; rw [hW]; simp [go_sem]
  have f2 : ∀ o, W.frozen? ⟨w.heap.size + 1 + 1, o, none⟩ = false := by intro o; rw [hW]; simp [go_sem]
  clear hW
  have k0 := cell_regrown c0
  have k1 := cell_regrown c1
  have k2 := cell_regrown c2
  have j0 := cell_regrown d0
  have j1 := cell_regrown d1
  have j2 := cell_regrown d2
  refine wp_region_below_tail 4 (by kernel_rfl) (by kernel_rfl) ?_
  simp only [List.take_succ_cons, List.take_zero, List.drop_succ_cons, List.drop_zero]
  repeat (quiet_step (first | (with_reducible exact Calls.regrown_of (I 1 _)) | (with_reducible exact Calls.regrown_of (I 64 _))))
  refine wpQuiet_nil ?_
  intro _ hw'
  obtain ⟨⟨dq, osq⟩, hw''⟩ := hw'
  subst hw''
  have hb1 := below_regrown W dq osq
  generalize grow (redrawn W dq) osq = w1 at *
  have hb2 := hb0.trans (hb1.mono hb0.size)
  have hz1 : w.heap.size + 2 < w1.heap.size := by have := hb1.size; omega
  replace c0 := (hb1.cell (p := ⟨w.heap.size, 0, none⟩) (by simp only; omega)).trans c0
  replace c1 := (hb1.cell (p := ⟨w.heap.size, 1, none⟩) (by simp only; omega)).trans c1
  replace c2 := (hb1.cell (p := ⟨w.heap.size, 2, none⟩) (by simp only; omega)).trans c2
  replace d0 := (hb1.cell (p := ⟨w.heap.size + 1, 0, none⟩) (by simp only; omega)).trans d0
  replace d1 := (hb1.cell (p := ⟨w.heap.size + 1, 1, none⟩) (by simp only; omega)).trans d1
  replace d2 := (hb1.cell (p := ⟨w.heap.size + 1, 2, none⟩) (by simp only; omega)).trans d2
  replace r0 := (hb1.cell (p := ⟨w.heap.size + 1 + 1, 0, none⟩) (by simp only; omega)).trans r0
  replace r1 := (hb1.cell (p := ⟨w.heap.size + 1 + 1, 1, none⟩) (by simp only; omega)).trans r1
  replace r2 := (hb1.cell (p := ⟨w.heap.size + 1 + 1, 2, none⟩) (by simp only; omega)).trans r2
  replace f0 := fun o => (hb1.frozen (p := ⟨w.heap.size, o, none⟩) (by simp only; omega)).trans (f0 o)
  replace f1 := fun o => (hb1.frozen (p := ⟨w.heap.size + 1, o, none⟩) (by simp only; omega)).trans (f1 o)
  replace f2 := fun o => (hb1.frozen (p := ⟨w.heap.size + 1 + 1, o, none⟩) (by simp only; omega)).trans (f2 o)
  clear k0 k1 k2 j0 j1 j2 hb0 hb1 hz I
  go_wp2_with fail
  go_wp2_with (first
    | (go_at_call 25; (with_reducible refine (numbers_12 _).mono ?_); rintro e w2 ⟨rfl, rfl⟩)
    | (go_at_call 42; (with_reducible refine (shl_64 _).mono ?_); rintro e w2 ⟨rfl, rfl⟩)
    | (go_at_call 26; (with_reducible refine (number_no (0) 19 rfl _).mono ?_); rintro e w3 ⟨rfl, hb3⟩; have hz3 := (show w.heap.size + 2 < w3.heap.size by have := hb3.size; simp at this; omega); have g0 := fun o => hb3.cell (p := ⟨w.heap.size + 1 + 1, o, none⟩) (by simp; omega); have g1 := fun o => hb3.frozen (p := ⟨w.heap.size + 1 + 1, o, none⟩) (by simp; omega)))
  exact bodyPost_ret (v := .tuple #[tv 0 0, .int .i64 19]) (by simp [results, Tryz.results14, go_sem, g0, r0, r1, r2]) rfl ⟨rfl, b3 ((b3 (b3 hb2 (Nat.le_refl _) _ _ _) (by omega) _ _ _).trans (hb3.mono (by have := hb2.size; simp; omega))) (by omega) _ _ _⟩
end Go.Proofs.YtbghbfgbpdppeaaGreatDoor
