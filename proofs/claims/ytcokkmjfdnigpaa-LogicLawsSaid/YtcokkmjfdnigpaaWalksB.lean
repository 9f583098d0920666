/- logic.And, Or, Is, Test, All of none, the document's Test, and what the law itself checks once: each function's answer, for every argument; no condition. -/
import Derived.Test.YtcokkmjfdnigpaaWalks
namespace Go.Proofs.Ytcokkmjfdnigpaa
open Go.ChangeShapes Go.WideShapes Go.ChangeAt Go.RowKit Go.Sort

theorem and_00 (k n : Int) (s : ByteArray) (k' n' : Int) (s' : ByteArray) (w : World)
    (C : ∀ W : World, Calls Try.prog 12 #[gv k n s] W fun e w' => e = .returned (.int .i64 0) ∧ Below W.heap.size W w')
    (D : ∀ W : World, Calls Try.prog 12 #[gv k' n' s'] W fun e w' => e = .returned (.int .i64 0) ∧ Below W.heap.size W w') :
    Calls Try.prog 6 #[gv k n s, gv k' n' s'] w fun e w' => e = .returned (tv 1 0) ∧ Below w.heap.size w w' := by
  have q11 : ∀ w, (binOp .eql 32 (.agg #[.int .i64 0, .int .i64 0]) (.agg #[.int .i64 1, .int .i64 1])).run Try.prog w = .ok (.bool false) w := fun _ => by kernel_rfl
  have q12 : ∀ w, (binOp .eql 32 (.agg #[.int .i64 0, .int .i64 0]) (.agg #[.int .i64 1, .int .i64 2])).run Try.prog w = .ok (.bool false) w := fun _ => by kernel_rfl
  have q21 : ∀ w, (binOp .eql 32 (.agg #[.int .i64 0, .int .i64 0]) (.agg #[.int .i64 2, .int .i64 1])).run Try.prog w = .ok (.bool false) w := fun _ => by kernel_rfl
  have q22 : ∀ w, (binOp .eql 32 (.agg #[.int .i64 0, .int .i64 0]) (.agg #[.int .i64 2, .int .i64 2])).run Try.prog w = .ok (.bool false) w := fun _ => by kernel_rfl
  go_enter Try.func6, Try.ntmps6
  go_wp2_with fail
  refine wp_world (fun W hW => ?_)
  have hb0 : Below w.heap.size w W := by rw [hW]; exact ((balloc2 w _ _).alloc (by simp; omega) _)
  have hz : w.heap.size + 2 < W.heap.size := by rw [hW]; simp
  have c0 : W.cell? ⟨w.heap.size, 0, none⟩ = some (.int .i64 k) := by rw [hW]; simp [go_sem]
  have c1 : W.cell? ⟨w.heap.size, 1, none⟩ = some (.int .i64 n) := by rw [hW]; simp [go_sem]
  have c2 : W.cell? ⟨w.heap.size, 2, none⟩ = some (.string s) := by rw [hW]; simp [go_sem]
  have d0 : W.cell? ⟨w.heap.size + 1, 0, none⟩ = some (.int .i64 k') := by rw [hW]; simp [go_sem]
  have d1 : W.cell? ⟨w.heap.size + 1, 1, none⟩ = some (.int .i64 n') := by rw [hW]; simp [go_sem]
  have d2 : W.cell? ⟨w.heap.size + 1, 2, none⟩ = some (.string s') := by rw [hW]; simp [go_sem]
  have r0 : W.cell? ⟨w.heap.size + 1 + 1, 0, none⟩ = some (.int .i64 0) := by rw [hW]; simp [go_sem]
  have r1 : W.cell? ⟨w.heap.size + 1 + 1, 1, none⟩ = some (.int .i64 0) := by rw [hW]; simp [go_sem]
  have r2 : W.cell? ⟨w.heap.size + 1 + 1, 2, none⟩ = some (.string { data := #[] }) := by rw [hW]; simp [go_sem]
  have f0 : ∀ o, W.frozen? ⟨w.heap.size + 1 + 1, o, none⟩ = false := by intro o; rw [hW]; simp [go_sem]
  clear hW
  have c0 := cell_regrown c0
  have c1 := cell_regrown c1
  have c2 := cell_regrown c2
  have d0 := cell_regrown d0
  have d1 := cell_regrown d1
  have d2 := cell_regrown d2
  refine wp_region_quiet_below (by kernel_rfl) (by kernel_rfl) ?_
  repeat (quiet_step (first | (with_reducible exact Calls.regrown_of (C _)) | (with_reducible exact Calls.regrown_of (D _))))
  refine wpQuiet_nil ?_
  intro _ hw'
  obtain ⟨⟨dq, osq⟩, hw''⟩ := hw'
  subst hw''
  have hb1 := below_regrown W dq osq
  generalize grow (redrawn W dq) osq = w1 at *
  go_wp2_with (go_at_call 13; refine (bool_any false _).mono ?_; rintro e w2 ⟨rfl, hb2⟩; obtain ⟨hc1, hf1⟩ := bcell hb1; obtain ⟨hc2, hf2⟩ := bcell hb2; have hz1 : w.heap.size + 2 < w1.heap.size := (by have := hb1.size; omega); have hz2 : w.heap.size + 2 < w2.heap.size := (by have := hb2.size; omega); have g : ∀ o, w2.cell? ⟨w.heap.size + 1 + 1, o, none⟩ = W.cell? ⟨w.heap.size + 1 + 1, o, none⟩ := (fun o => by rw [hc2 _ _ (by omega), hc1 _ _ (by omega)]))
  exact bodyPost_ret (v := tv 1 0) (by simp [results, Try.results6, go_sem, g, r0, r1, r2, b2t]) rfl ⟨rfl, b3 ((hb0.trans (hb1.mono (by omega))).trans (hb2.mono (by have := hb1.size; omega))) (by omega) _ _ _⟩

theorem and_01 (k n : Int) (s : ByteArray) (k' n' : Int) (s' : ByteArray) (w : World)
    (C : ∀ W : World, Calls Try.prog 12 #[gv k n s] W fun e w' => e = .returned (.int .i64 0) ∧ Below W.heap.size W w')
    (D : ∀ W : World, Calls Try.prog 12 #[gv k' n' s'] W fun e w' => e = .returned (.int .i64 1) ∧ Below W.heap.size W w') :
    Calls Try.prog 6 #[gv k n s, gv k' n' s'] w fun e w' => e = .returned (tv 1 0) ∧ Below w.heap.size w w' := by
  have q11 : ∀ w, (binOp .eql 32 (.agg #[.int .i64 0, .int .i64 1]) (.agg #[.int .i64 1, .int .i64 1])).run Try.prog w = .ok (.bool false) w := fun _ => by kernel_rfl
  have q12 : ∀ w, (binOp .eql 32 (.agg #[.int .i64 0, .int .i64 1]) (.agg #[.int .i64 1, .int .i64 2])).run Try.prog w = .ok (.bool false) w := fun _ => by kernel_rfl
  have q21 : ∀ w, (binOp .eql 32 (.agg #[.int .i64 0, .int .i64 1]) (.agg #[.int .i64 2, .int .i64 1])).run Try.prog w = .ok (.bool false) w := fun _ => by kernel_rfl
  have q22 : ∀ w, (binOp .eql 32 (.agg #[.int .i64 0, .int .i64 1]) (.agg #[.int .i64 2, .int .i64 2])).run Try.prog w = .ok (.bool false) w := fun _ => by kernel_rfl
  go_enter Try.func6, Try.ntmps6
  go_wp2_with fail
  refine wp_world (fun W hW => ?_)
  have hb0 : Below w.heap.size w W := by rw [hW]; exact ((balloc2 w _ _).alloc (by simp; omega) _)
  have hz : w.heap.size + 2 < W.heap.size := by rw [hW]; simp
  have c0 : W.cell? ⟨w.heap.size, 0, none⟩ = some (.int .i64 k) := by rw [hW]; simp [go_sem]
  have c1 : W.cell? ⟨w.heap.size, 1, none⟩ = some (.int .i64 n) := by rw [hW]; simp [go_sem]
  have c2 : W.cell? ⟨w.heap.size, 2, none⟩ = some (.string s) := by rw [hW]; simp [go_sem]
  have d0 : W.cell? ⟨w.heap.size + 1, 0, none⟩ = some (.int .i64 k') := by rw [hW]; simp [go_sem]
  have d1 : W.cell? ⟨w.heap.size + 1, 1, none⟩ = some (.int .i64 n') := by rw [hW]; simp [go_sem]
  have d2 : W.cell? ⟨w.heap.size + 1, 2, none⟩ = some (.string s') := by rw [hW]; simp [go_sem]
  have r0 : W.cell? ⟨w.heap.size + 1 + 1, 0, none⟩ = some (.int .i64 0) := by rw [hW]; simp [go_sem]
  have r1 : W.cell? ⟨w.heap.size + 1 + 1, 1, none⟩ = some (.int .i64 0) := by rw [hW]; simp [go_sem]
  have r2 : W.cell? ⟨w.heap.size + 1 + 1, 2, none⟩ = some (.string { data := #[] }) := by rw [hW]; simp [go_sem]
  have f0 : ∀ o, W.frozen? ⟨w.heap.size + 1 + 1, o, none⟩ = false := by intro o; rw [hW]; simp [go_sem]
  clear hW
  have c0 := cell_regrown c0
  have c1 := cell_regrown c1
  have c2 := cell_regrown c2
  have d0 := cell_regrown d0
  have d1 := cell_regrown d1
  have d2 := cell_regrown d2
  refine wp_region_quiet_below (by kernel_rfl) (by kernel_rfl) ?_
  repeat (quiet_step (first | (with_reducible exact Calls.regrown_of (C _)) | (with_reducible exact Calls.regrown_of (D _))))
  refine wpQuiet_nil ?_
  intro _ hw'
  obtain ⟨⟨dq, osq⟩, hw''⟩ := hw'
  subst hw''
  have hb1 := below_regrown W dq osq
  generalize grow (redrawn W dq) osq = w1 at *
  go_wp2_with (go_at_call 13; refine (bool_any false _).mono ?_; rintro e w2 ⟨rfl, hb2⟩; obtain ⟨hc1, hf1⟩ := bcell hb1; obtain ⟨hc2, hf2⟩ := bcell hb2; have hz1 : w.heap.size + 2 < w1.heap.size := (by have := hb1.size; omega); have hz2 : w.heap.size + 2 < w2.heap.size := (by have := hb2.size; omega); have g : ∀ o, w2.cell? ⟨w.heap.size + 1 + 1, o, none⟩ = W.cell? ⟨w.heap.size + 1 + 1, o, none⟩ := (fun o => by rw [hc2 _ _ (by omega), hc1 _ _ (by omega)]))
  exact bodyPost_ret (v := tv 1 0) (by simp [results, Try.results6, go_sem, g, r0, r1, r2, b2t]) rfl ⟨rfl, b3 ((hb0.trans (hb1.mono (by omega))).trans (hb2.mono (by have := hb1.size; omega))) (by omega) _ _ _⟩

theorem and_02 (k n : Int) (s : ByteArray) (k' n' : Int) (s' : ByteArray) (w : World)
    (C : ∀ W : World, Calls Try.prog 12 #[gv k n s] W fun e w' => e = .returned (.int .i64 0) ∧ Below W.heap.size W w')
    (D : ∀ W : World, Calls Try.prog 12 #[gv k' n' s'] W fun e w' => e = .returned (.int .i64 2) ∧ Below W.heap.size W w') :
    Calls Try.prog 6 #[gv k n s, gv k' n' s'] w fun e w' => e = .returned (tv 1 0) ∧ Below w.heap.size w w' := by
  have q11 : ∀ w, (binOp .eql 32 (.agg #[.int .i64 0, .int .i64 2]) (.agg #[.int .i64 1, .int .i64 1])).run Try.prog w = .ok (.bool false) w := fun _ => by kernel_rfl
  have q12 : ∀ w, (binOp .eql 32 (.agg #[.int .i64 0, .int .i64 2]) (.agg #[.int .i64 1, .int .i64 2])).run Try.prog w = .ok (.bool false) w := fun _ => by kernel_rfl
  have q21 : ∀ w, (binOp .eql 32 (.agg #[.int .i64 0, .int .i64 2]) (.agg #[.int .i64 2, .int .i64 1])).run Try.prog w = .ok (.bool false) w := fun _ => by kernel_rfl
  have q22 : ∀ w, (binOp .eql 32 (.agg #[.int .i64 0, .int .i64 2]) (.agg #[.int .i64 2, .int .i64 2])).run Try.prog w = .ok (.bool false) w := fun _ => by kernel_rfl
  go_enter Try.func6, Try.ntmps6
  go_wp2_with fail
  refine wp_world (fun W hW => ?_)
  have hb0 : Below w.heap.size w W := by rw [hW]; exact ((balloc2 w _ _).alloc (by simp; omega) _)
  have hz : w.heap.size + 2 < W.heap.size := by rw [hW]; simp
  have c0 : W.cell? ⟨w.heap.size, 0, none⟩ = some (.int .i64 k) := by rw [hW]; simp [go_sem]
  have c1 : W.cell? ⟨w.heap.size, 1, none⟩ = some (.int .i64 n) := by rw [hW]; simp [go_sem]
  have c2 : W.cell? ⟨w.heap.size, 2, none⟩ = some (.string s) := by rw [hW]; simp [go_sem]
  have d0 : W.cell? ⟨w.heap.size + 1, 0, none⟩ = some (.int .i64 k') := by rw [hW]; simp [go_sem]
  have d1 : W.cell? ⟨w.heap.size + 1, 1, none⟩ = some (.int .i64 n') := by rw [hW]; simp [go_sem]
  have d2 : W.cell? ⟨w.heap.size + 1, 2, none⟩ = some (.string s') := by rw [hW]; simp [go_sem]
  have r0 : W.cell? ⟨w.heap.size + 1 + 1, 0, none⟩ = some (.int .i64 0) := by rw [hW]; simp [go_sem]
  have r1 : W.cell? ⟨w.heap.size + 1 + 1, 1, none⟩ = some (.int .i64 0) := by rw [hW]; simp [go_sem]
  have r2 : W.cell? ⟨w.heap.size + 1 + 1, 2, none⟩ = some (.string { data := #[] }) := by rw [hW]; simp [go_sem]
  have f0 : ∀ o, W.frozen? ⟨w.heap.size + 1 + 1, o, none⟩ = false := by intro o; rw [hW]; simp [go_sem]
  clear hW
  have c0 := cell_regrown c0
  have c1 := cell_regrown c1
  have c2 := cell_regrown c2
  have d0 := cell_regrown d0
  have d1 := cell_regrown d1
  have d2 := cell_regrown d2
  refine wp_region_quiet_below (by kernel_rfl) (by kernel_rfl) ?_
  repeat (quiet_step (first | (with_reducible exact Calls.regrown_of (C _)) | (with_reducible exact Calls.regrown_of (D _))))
  refine wpQuiet_nil ?_
  intro _ hw'
  obtain ⟨⟨dq, osq⟩, hw''⟩ := hw'
  subst hw''
  have hb1 := below_regrown W dq osq
  generalize grow (redrawn W dq) osq = w1 at *
  go_wp2_with (go_at_call 13; refine (bool_any false _).mono ?_; rintro e w2 ⟨rfl, hb2⟩; obtain ⟨hc1, hf1⟩ := bcell hb1; obtain ⟨hc2, hf2⟩ := bcell hb2; have hz1 : w.heap.size + 2 < w1.heap.size := (by have := hb1.size; omega); have hz2 : w.heap.size + 2 < w2.heap.size := (by have := hb2.size; omega); have g : ∀ o, w2.cell? ⟨w.heap.size + 1 + 1, o, none⟩ = W.cell? ⟨w.heap.size + 1 + 1, o, none⟩ := (fun o => by rw [hc2 _ _ (by omega), hc1 _ _ (by omega)]))
  exact bodyPost_ret (v := tv 1 0) (by simp [results, Try.results6, go_sem, g, r0, r1, r2, b2t]) rfl ⟨rfl, b3 ((hb0.trans (hb1.mono (by omega))).trans (hb2.mono (by have := hb1.size; omega))) (by omega) _ _ _⟩

theorem and_10 (k n : Int) (s : ByteArray) (k' n' : Int) (s' : ByteArray) (w : World)
    (C : ∀ W : World, Calls Try.prog 12 #[gv k n s] W fun e w' => e = .returned (.int .i64 1) ∧ Below W.heap.size W w')
    (D : ∀ W : World, Calls Try.prog 12 #[gv k' n' s'] W fun e w' => e = .returned (.int .i64 0) ∧ Below W.heap.size W w') :
    Calls Try.prog 6 #[gv k n s, gv k' n' s'] w fun e w' => e = .returned (tv 1 0) ∧ Below w.heap.size w w' := by
  have q11 : ∀ w, (binOp .eql 32 (.agg #[.int .i64 1, .int .i64 0]) (.agg #[.int .i64 1, .int .i64 1])).run Try.prog w = .ok (.bool false) w := fun _ => by kernel_rfl
  have q12 : ∀ w, (binOp .eql 32 (.agg #[.int .i64 1, .int .i64 0]) (.agg #[.int .i64 1, .int .i64 2])).run Try.prog w = .ok (.bool false) w := fun _ => by kernel_rfl
  have q21 : ∀ w, (binOp .eql 32 (.agg #[.int .i64 1, .int .i64 0]) (.agg #[.int .i64 2, .int .i64 1])).run Try.prog w = .ok (.bool false) w := fun _ => by kernel_rfl
  have q22 : ∀ w, (binOp .eql 32 (.agg #[.int .i64 1, .int .i64 0]) (.agg #[.int .i64 2, .int .i64 2])).run Try.prog w = .ok (.bool false) w := fun _ => by kernel_rfl
  go_enter Try.func6, Try.ntmps6
  go_wp2_with fail
  refine wp_world (fun W hW => ?_)
  have hb0 : Below w.heap.size w W := by rw [hW]; exact ((balloc2 w _ _).alloc (by simp; omega) _)
  have hz : w.heap.size + 2 < W.heap.size := by rw [hW]; simp
  have c0 : W.cell? ⟨w.heap.size, 0, none⟩ = some (.int .i64 k) := by rw [hW]; simp [go_sem]
  have c1 : W.cell? ⟨w.heap.size, 1, none⟩ = some (.int .i64 n) := by rw [hW]; simp [go_sem]
  have c2 : W.cell? ⟨w.heap.size, 2, none⟩ = some (.string s) := by rw [hW]; simp [go_sem]
  have d0 : W.cell? ⟨w.heap.size + 1, 0, none⟩ = some (.int .i64 k') := by rw [hW]; simp [go_sem]
  have d1 : W.cell? ⟨w.heap.size + 1, 1, none⟩ = some (.int .i64 n') := by rw [hW]; simp [go_sem]
  have d2 : W.cell? ⟨w.heap.size + 1, 2, none⟩ = some (.string s') := by rw [hW]; simp [go_sem]
  have r0 : W.cell? ⟨w.heap.size + 1 + 1, 0, none⟩ = some (.int .i64 0) := by rw [hW]; simp [go_sem]
  have r1 : W.cell? ⟨w.heap.size + 1 + 1, 1, none⟩ = some (.int .i64 0) := by rw [hW]; simp [go_sem]
  have r2 : W.cell? ⟨w.heap.size + 1 + 1, 2, none⟩ = some (.string { data := #[] }) := by rw [hW]; simp [go_sem]
  have f0 : ∀ o, W.frozen? ⟨w.heap.size + 1 + 1, o, none⟩ = false := by intro o; rw [hW]; simp [go_sem]
  clear hW
  have c0 := cell_regrown c0
  have c1 := cell_regrown c1
  have c2 := cell_regrown c2
  have d0 := cell_regrown d0
  have d1 := cell_regrown d1
  have d2 := cell_regrown d2
  refine wp_region_quiet_below (by kernel_rfl) (by kernel_rfl) ?_
  repeat (quiet_step (first | (with_reducible exact Calls.regrown_of (C _)) | (with_reducible exact Calls.regrown_of (D _))))
  refine wpQuiet_nil ?_
  intro _ hw'
  obtain ⟨⟨dq, osq⟩, hw''⟩ := hw'
  subst hw''
  have hb1 := below_regrown W dq osq
  generalize grow (redrawn W dq) osq = w1 at *
  go_wp2_with (go_at_call 13; refine (bool_any false _).mono ?_; rintro e w2 ⟨rfl, hb2⟩; obtain ⟨hc1, hf1⟩ := bcell hb1; obtain ⟨hc2, hf2⟩ := bcell hb2; have hz1 : w.heap.size + 2 < w1.heap.size := (by have := hb1.size; omega); have hz2 : w.heap.size + 2 < w2.heap.size := (by have := hb2.size; omega); have g : ∀ o, w2.cell? ⟨w.heap.size + 1 + 1, o, none⟩ = W.cell? ⟨w.heap.size + 1 + 1, o, none⟩ := (fun o => by rw [hc2 _ _ (by omega), hc1 _ _ (by omega)]))
  exact bodyPost_ret (v := tv 1 0) (by simp [results, Try.results6, go_sem, g, r0, r1, r2, b2t]) rfl ⟨rfl, b3 ((hb0.trans (hb1.mono (by omega))).trans (hb2.mono (by have := hb1.size; omega))) (by omega) _ _ _⟩

theorem and_11 (k n : Int) (s : ByteArray) (k' n' : Int) (s' : ByteArray) (w : World)
    (C : ∀ W : World, Calls Try.prog 12 #[gv k n s] W fun e w' => e = .returned (.int .i64 1) ∧ Below W.heap.size W w')
    (D : ∀ W : World, Calls Try.prog 12 #[gv k' n' s'] W fun e w' => e = .returned (.int .i64 1) ∧ Below W.heap.size W w') :
    Calls Try.prog 6 #[gv k n s, gv k' n' s'] w fun e w' => e = .returned (tv 1 1) ∧ Below w.heap.size w w' := by
  have q11 : ∀ w, (binOp .eql 32 (.agg #[.int .i64 1, .int .i64 1]) (.agg #[.int .i64 1, .int .i64 1])).run Try.prog w = .ok (.bool true) w := fun _ => by kernel_rfl
  have q12 : ∀ w, (binOp .eql 32 (.agg #[.int .i64 1, .int .i64 1]) (.agg #[.int .i64 1, .int .i64 2])).run Try.prog w = .ok (.bool false) w := fun _ => by kernel_rfl
  have q21 : ∀ w, (binOp .eql 32 (.agg #[.int .i64 1, .int .i64 1]) (.agg #[.int .i64 2, .int .i64 1])).run Try.prog w = .ok (.bool false) w := fun _ => by kernel_rfl
  have q22 : ∀ w, (binOp .eql 32 (.agg #[.int .i64 1, .int .i64 1]) (.agg #[.int .i64 2, .int .i64 2])).run Try.prog w = .ok (.bool false) w := fun _ => by kernel_rfl
  go_enter Try.func6, Try.ntmps6
  go_wp2_with fail
  refine wp_world (fun W hW => ?_)
  have hb0 : Below w.heap.size w W := by rw [hW]; exact ((balloc2 w _ _).alloc (by simp; omega) _)
  have hz : w.heap.size + 2 < W.heap.size := by rw [hW]; simp
  have c0 : W.cell? ⟨w.heap.size, 0, none⟩ = some (.int .i64 k) := by rw [hW]; simp [go_sem]
  have c1 : W.cell? ⟨w.heap.size, 1, none⟩ = some (.int .i64 n) := by rw [hW]; simp [go_sem]
  have c2 : W.cell? ⟨w.heap.size, 2, none⟩ = some (.string s) := by rw [hW]; simp [go_sem]
  have d0 : W.cell? ⟨w.heap.size + 1, 0, none⟩ = some (.int .i64 k') := by rw [hW]; simp [go_sem]
  have d1 : W.cell? ⟨w.heap.size + 1, 1, none⟩ = some (.int .i64 n') := by rw [hW]; simp [go_sem]
  have d2 : W.cell? ⟨w.heap.size + 1, 2, none⟩ = some (.string s') := by rw [hW]; simp [go_sem]
  have r0 : W.cell? ⟨w.heap.size + 1 + 1, 0, none⟩ = some (.int .i64 0) := by rw [hW]; simp [go_sem]
  have r1 : W.cell? ⟨w.heap.size + 1 + 1, 1, none⟩ = some (.int .i64 0) := by rw [hW]; simp [go_sem]
  have r2 : W.cell? ⟨w.heap.size + 1 + 1, 2, none⟩ = some (.string { data := #[] }) := by rw [hW]; simp [go_sem]
  have f0 : ∀ o, W.frozen? ⟨w.heap.size + 1 + 1, o, none⟩ = false := by intro o; rw [hW]; simp [go_sem]
  clear hW
  have c0 := cell_regrown c0
  have c1 := cell_regrown c1
  have c2 := cell_regrown c2
  have d0 := cell_regrown d0
  have d1 := cell_regrown d1
  have d2 := cell_regrown d2
  refine wp_region_quiet_below (by kernel_rfl) (by kernel_rfl) ?_
  repeat (quiet_step (first | (with_reducible exact Calls.regrown_of (C _)) | (with_reducible exact Calls.regrown_of (D _))))
  refine wpQuiet_nil ?_
  intro _ hw'
  obtain ⟨⟨dq, osq⟩, hw''⟩ := hw'
  subst hw''
  have hb1 := below_regrown W dq osq
  generalize grow (redrawn W dq) osq = w1 at *
  go_wp2_with (go_at_call 13; refine (bool_any true _).mono ?_; rintro e w2 ⟨rfl, hb2⟩; obtain ⟨hc1, hf1⟩ := bcell hb1; obtain ⟨hc2, hf2⟩ := bcell hb2; have hz1 : w.heap.size + 2 < w1.heap.size := (by have := hb1.size; omega); have hz2 : w.heap.size + 2 < w2.heap.size := (by have := hb2.size; omega); have g : ∀ o, w2.cell? ⟨w.heap.size + 1 + 1, o, none⟩ = W.cell? ⟨w.heap.size + 1 + 1, o, none⟩ := (fun o => by rw [hc2 _ _ (by omega), hc1 _ _ (by omega)]))
  exact bodyPost_ret (v := tv 1 1) (by simp [results, Try.results6, go_sem, g, r0, r1, r2, b2t]) rfl ⟨rfl, b3 ((hb0.trans (hb1.mono (by omega))).trans (hb2.mono (by have := hb1.size; omega))) (by omega) _ _ _⟩

theorem and_12 (k n : Int) (s : ByteArray) (k' n' : Int) (s' : ByteArray) (w : World)
    (C : ∀ W : World, Calls Try.prog 12 #[gv k n s] W fun e w' => e = .returned (.int .i64 1) ∧ Below W.heap.size W w')
    (D : ∀ W : World, Calls Try.prog 12 #[gv k' n' s'] W fun e w' => e = .returned (.int .i64 2) ∧ Below W.heap.size W w') :
    Calls Try.prog 6 #[gv k n s, gv k' n' s'] w fun e w' => e = .returned (tv 0 0) ∧ Below w.heap.size w w' := by
  have q11 : ∀ w, (binOp .eql 32 (.agg #[.int .i64 1, .int .i64 2]) (.agg #[.int .i64 1, .int .i64 1])).run Try.prog w = .ok (.bool false) w := fun _ => by kernel_rfl
  have q12 : ∀ w, (binOp .eql 32 (.agg #[.int .i64 1, .int .i64 2]) (.agg #[.int .i64 1, .int .i64 2])).run Try.prog w = .ok (.bool true) w := fun _ => by kernel_rfl
  have q21 : ∀ w, (binOp .eql 32 (.agg #[.int .i64 1, .int .i64 2]) (.agg #[.int .i64 2, .int .i64 1])).run Try.prog w = .ok (.bool false) w := fun _ => by kernel_rfl
  have q22 : ∀ w, (binOp .eql 32 (.agg #[.int .i64 1, .int .i64 2]) (.agg #[.int .i64 2, .int .i64 2])).run Try.prog w = .ok (.bool false) w := fun _ => by kernel_rfl
  go_enter Try.func6, Try.ntmps6
  go_wp2_with fail
  refine wp_world (fun W hW => ?_)
  have hb0 : Below w.heap.size w W := by rw [hW]; exact ((balloc2 w _ _).alloc (by simp; omega) _)
  have hz : w.heap.size + 2 < W.heap.size := by rw [hW]; simp
  have c0 : W.cell? ⟨w.heap.size, 0, none⟩ = some (.int .i64 k) := by rw [hW]; simp [go_sem]
  have c1 : W.cell? ⟨w.heap.size, 1, none⟩ = some (.int .i64 n) := by rw [hW]; simp [go_sem]
  have c2 : W.cell? ⟨w.heap.size, 2, none⟩ = some (.string s) := by rw [hW]; simp [go_sem]
  have d0 : W.cell? ⟨w.heap.size + 1, 0, none⟩ = some (.int .i64 k') := by rw [hW]; simp [go_sem]
  have d1 : W.cell? ⟨w.heap.size + 1, 1, none⟩ = some (.int .i64 n') := by rw [hW]; simp [go_sem]
  have d2 : W.cell? ⟨w.heap.size + 1, 2, none⟩ = some (.string s') := by rw [hW]; simp [go_sem]
  have r0 : W.cell? ⟨w.heap.size + 1 + 1, 0, none⟩ = some (.int .i64 0) := by rw [hW]; simp [go_sem]
  have r1 : W.cell? ⟨w.heap.size + 1 + 1, 1, none⟩ = some (.int .i64 0) := by rw [hW]; simp [go_sem]
  have r2 : W.cell? ⟨w.heap.size + 1 + 1, 2, none⟩ = some (.string { data := #[] }) := by rw [hW]; simp [go_sem]
  have f0 : ∀ o, W.frozen? ⟨w.heap.size + 1 + 1, o, none⟩ = false := by intro o; rw [hW]; simp [go_sem]
  clear hW
  have c0 := cell_regrown c0
  have c1 := cell_regrown c1
  have c2 := cell_regrown c2
  have d0 := cell_regrown d0
  have d1 := cell_regrown d1
  have d2 := cell_regrown d2
  refine wp_region_quiet_below (by kernel_rfl) (by kernel_rfl) ?_
  repeat (quiet_step (first | (with_reducible exact Calls.regrown_of (C _)) | (with_reducible exact Calls.regrown_of (D _))))
  refine wpQuiet_nil ?_
  intro _ hw'
  obtain ⟨⟨dq, osq⟩, hw''⟩ := hw'
  subst hw''
  have hb1 := below_regrown W dq osq
  generalize grow (redrawn W dq) osq = w1 at *
  go_wp2_with (go_at_call 14; refine (null_any _).mono ?_; rintro e w2 ⟨rfl, hb2⟩; obtain ⟨hc1, hf1⟩ := bcell hb1; obtain ⟨hc2, hf2⟩ := bcell hb2; have hz1 : w.heap.size + 2 < w1.heap.size := (by have := hb1.size; omega); have hz2 : w.heap.size + 2 < w2.heap.size := (by have := hb2.size; omega); have g : ∀ o, w2.cell? ⟨w.heap.size + 1 + 1, o, none⟩ = W.cell? ⟨w.heap.size + 1 + 1, o, none⟩ := (fun o => by rw [hc2 _ _ (by omega), hc1 _ _ (by omega)]))
  exact bodyPost_ret (v := tv 0 0) (by simp [results, Try.results6, go_sem, g, r0, r1, r2]) rfl ⟨rfl, b3 ((hb0.trans (hb1.mono (by omega))).trans (hb2.mono (by have := hb1.size; omega))) (by omega) _ _ _⟩

theorem and_20 (k n : Int) (s : ByteArray) (k' n' : Int) (s' : ByteArray) (w : World)
    (C : ∀ W : World, Calls Try.prog 12 #[gv k n s] W fun e w' => e = .returned (.int .i64 2) ∧ Below W.heap.size W w')
    (D : ∀ W : World, Calls Try.prog 12 #[gv k' n' s'] W fun e w' => e = .returned (.int .i64 0) ∧ Below W.heap.size W w') :
    Calls Try.prog 6 #[gv k n s, gv k' n' s'] w fun e w' => e = .returned (tv 1 0) ∧ Below w.heap.size w w' := by
  have q11 : ∀ w, (binOp .eql 32 (.agg #[.int .i64 2, .int .i64 0]) (.agg #[.int .i64 1, .int .i64 1])).run Try.prog w = .ok (.bool false) w := fun _ => by kernel_rfl
  have q12 : ∀ w, (binOp .eql 32 (.agg #[.int .i64 2, .int .i64 0]) (.agg #[.int .i64 1, .int .i64 2])).run Try.prog w = .ok (.bool false) w := fun _ => by kernel_rfl
  have q21 : ∀ w, (binOp .eql 32 (.agg #[.int .i64 2, .int .i64 0]) (.agg #[.int .i64 2, .int .i64 1])).run Try.prog w = .ok (.bool false) w := fun _ => by kernel_rfl
  have q22 : ∀ w, (binOp .eql 32 (.agg #[.int .i64 2, .int .i64 0]) (.agg #[.int .i64 2, .int .i64 2])).run Try.prog w = .ok (.bool false) w := fun _ => by kernel_rfl
  go_enter Try.func6, Try.ntmps6
  go_wp2_with fail
  refine wp_world (fun W hW => ?_)
  have hb0 : Below w.heap.size w W := by rw [hW]; exact ((balloc2 w _ _).alloc (by simp; omega) _)
  have hz : w.heap.size + 2 < W.heap.size := by rw [hW]; simp
  have c0 : W.cell? ⟨w.heap.size, 0, none⟩ = some (.int .i64 k) := by rw [hW]; simp [go_sem]
  have c1 : W.cell? ⟨w.heap.size, 1, none⟩ = some (.int .i64 n) := by rw [hW]; simp [go_sem]
  have c2 : W.cell? ⟨w.heap.size, 2, none⟩ = some (.string s) := by rw [hW]; simp [go_sem]
  have d0 : W.cell? ⟨w.heap.size + 1, 0, none⟩ = some (.int .i64 k') := by rw [hW]; simp [go_sem]
  have d1 : W.cell? ⟨w.heap.size + 1, 1, none⟩ = some (.int .i64 n') := by rw [hW]; simp [go_sem]
  have d2 : W.cell? ⟨w.heap.size + 1, 2, none⟩ = some (.string s') := by rw [hW]; simp [go_sem]
  have r0 : W.cell? ⟨w.heap.size + 1 + 1, 0, none⟩ = some (.int .i64 0) := by rw [hW]; simp [go_sem]
  have r1 : W.cell? ⟨w.heap.size + 1 + 1, 1, none⟩ = some (.int .i64 0) := by rw [hW]; simp [go_sem]
  have r2 : W.cell? ⟨w.heap.size + 1 + 1, 2, none⟩ = some (.string { data := #[] }) := by rw [hW]; simp [go_sem]
  have f0 : ∀ o, W.frozen? ⟨w.heap.size + 1 + 1, o, none⟩ = false := by intro o; rw [hW]; simp [go_sem]
  clear hW
  have c0 := cell_regrown c0
  have c1 := cell_regrown c1
  have c2 := cell_regrown c2
  have d0 := cell_regrown d0
  have d1 := cell_regrown d1
  have d2 := cell_regrown d2
  refine wp_region_quiet_below (by kernel_rfl) (by kernel_rfl) ?_
  repeat (quiet_step (first | (with_reducible exact Calls.regrown_of (C _)) | (with_reducible exact Calls.regrown_of (D _))))
  refine wpQuiet_nil ?_
  intro _ hw'
  obtain ⟨⟨dq, osq⟩, hw''⟩ := hw'
  subst hw''
  have hb1 := below_regrown W dq osq
  generalize grow (redrawn W dq) osq = w1 at *
  go_wp2_with (go_at_call 13; refine (bool_any false _).mono ?_; rintro e w2 ⟨rfl, hb2⟩; obtain ⟨hc1, hf1⟩ := bcell hb1; obtain ⟨hc2, hf2⟩ := bcell hb2; have hz1 : w.heap.size + 2 < w1.heap.size := (by have := hb1.size; omega); have hz2 : w.heap.size + 2 < w2.heap.size := (by have := hb2.size; omega); have g : ∀ o, w2.cell? ⟨w.heap.size + 1 + 1, o, none⟩ = W.cell? ⟨w.heap.size + 1 + 1, o, none⟩ := (fun o => by rw [hc2 _ _ (by omega), hc1 _ _ (by omega)]))
  exact bodyPost_ret (v := tv 1 0) (by simp [results, Try.results6, go_sem, g, r0, r1, r2, b2t]) rfl ⟨rfl, b3 ((hb0.trans (hb1.mono (by omega))).trans (hb2.mono (by have := hb1.size; omega))) (by omega) _ _ _⟩

theorem and_21 (k n : Int) (s : ByteArray) (k' n' : Int) (s' : ByteArray) (w : World)
    (C : ∀ W : World, Calls Try.prog 12 #[gv k n s] W fun e w' => e = .returned (.int .i64 2) ∧ Below W.heap.size W w')
    (D : ∀ W : World, Calls Try.prog 12 #[gv k' n' s'] W fun e w' => e = .returned (.int .i64 1) ∧ Below W.heap.size W w') :
    Calls Try.prog 6 #[gv k n s, gv k' n' s'] w fun e w' => e = .returned (tv 0 0) ∧ Below w.heap.size w w' := by
  have q11 : ∀ w, (binOp .eql 32 (.agg #[.int .i64 2, .int .i64 1]) (.agg #[.int .i64 1, .int .i64 1])).run Try.prog w = .ok (.bool false) w := fun _ => by kernel_rfl
  have q12 : ∀ w, (binOp .eql 32 (.agg #[.int .i64 2, .int .i64 1]) (.agg #[.int .i64 1, .int .i64 2])).run Try.prog w = .ok (.bool false) w := fun _ => by kernel_rfl
  have q21 : ∀ w, (binOp .eql 32 (.agg #[.int .i64 2, .int .i64 1]) (.agg #[.int .i64 2, .int .i64 1])).run Try.prog w = .ok (.bool true) w := fun _ => by kernel_rfl
  have q22 : ∀ w, (binOp .eql 32 (.agg #[.int .i64 2, .int .i64 1]) (.agg #[.int .i64 2, .int .i64 2])).run Try.prog w = .ok (.bool false) w := fun _ => by kernel_rfl
  go_enter Try.func6, Try.ntmps6
  go_wp2_with fail
  refine wp_world (fun W hW => ?_)
  have hb0 : Below w.heap.size w W := by rw [hW]; exact ((balloc2 w _ _).alloc (by simp; omega) _)
  have hz : w.heap.size + 2 < W.heap.size := by rw [hW]; simp
  have c0 : W.cell? ⟨w.heap.size, 0, none⟩ = some (.int .i64 k) := by rw [hW]; simp [go_sem]
  have c1 : W.cell? ⟨w.heap.size, 1, none⟩ = some (.int .i64 n) := by rw [hW]; simp [go_sem]
  have c2 : W.cell? ⟨w.heap.size, 2, none⟩ = some (.string s) := by rw [hW]; simp [go_sem]
  have d0 : W.cell? ⟨w.heap.size + 1, 0, none⟩ = some (.int .i64 k') := by rw [hW]; simp [go_sem]
  have d1 : W.cell? ⟨w.heap.size + 1, 1, none⟩ = some (.int .i64 n') := by rw [hW]; simp [go_sem]
  have d2 : W.cell? ⟨w.heap.size + 1, 2, none⟩ = some (.string s') := by rw [hW]; simp [go_sem]
  have r0 : W.cell? ⟨w.heap.size + 1 + 1, 0, none⟩ = some (.int .i64 0) := by rw [hW]; simp [go_sem]
  have r1 : W.cell? ⟨w.heap.size + 1 + 1, 1, none⟩ = some (.int .i64 0) := by rw [hW]; simp [go_sem]
  have r2 : W.cell? ⟨w.heap.size + 1 + 1, 2, none⟩ = some (.string { data := #[] }) := by rw [hW]; simp [go_sem]
  have f0 : ∀ o, W.frozen? ⟨w.heap.size + 1 + 1, o, none⟩ = false := by intro o; rw [hW]; simp [go_sem]
  clear hW
  have c0 := cell_regrown c0
  have c1 := cell_regrown c1
  have c2 := cell_regrown c2
  have d0 := cell_regrown d0
  have d1 := cell_regrown d1
  have d2 := cell_regrown d2
  refine wp_region_quiet_below (by kernel_rfl) (by kernel_rfl) ?_
  repeat (quiet_step (first | (with_reducible exact Calls.regrown_of (C _)) | (with_reducible exact Calls.regrown_of (D _))))
  refine wpQuiet_nil ?_
  intro _ hw'
  obtain ⟨⟨dq, osq⟩, hw''⟩ := hw'
  subst hw''
  have hb1 := below_regrown W dq osq
  generalize grow (redrawn W dq) osq = w1 at *
  go_wp2_with (go_at_call 14; refine (null_any _).mono ?_; rintro e w2 ⟨rfl, hb2⟩; obtain ⟨hc1, hf1⟩ := bcell hb1; obtain ⟨hc2, hf2⟩ := bcell hb2; have hz1 : w.heap.size + 2 < w1.heap.size := (by have := hb1.size; omega); have hz2 : w.heap.size + 2 < w2.heap.size := (by have := hb2.size; omega); have g : ∀ o, w2.cell? ⟨w.heap.size + 1 + 1, o, none⟩ = W.cell? ⟨w.heap.size + 1 + 1, o, none⟩ := (fun o => by rw [hc2 _ _ (by omega), hc1 _ _ (by omega)]))
  exact bodyPost_ret (v := tv 0 0) (by simp [results, Try.results6, go_sem, g, r0, r1, r2]) rfl ⟨rfl, b3 ((hb0.trans (hb1.mono (by omega))).trans (hb2.mono (by have := hb1.size; omega))) (by omega) _ _ _⟩

theorem and_22 (k n : Int) (s : ByteArray) (k' n' : Int) (s' : ByteArray) (w : World)
    (C : ∀ W : World, Calls Try.prog 12 #[gv k n s] W fun e w' => e = .returned (.int .i64 2) ∧ Below W.heap.size W w')
    (D : ∀ W : World, Calls Try.prog 12 #[gv k' n' s'] W fun e w' => e = .returned (.int .i64 2) ∧ Below W.heap.size W w') :
    Calls Try.prog 6 #[gv k n s, gv k' n' s'] w fun e w' => e = .returned (tv 0 0) ∧ Below w.heap.size w w' := by
  have q11 : ∀ w, (binOp .eql 32 (.agg #[.int .i64 2, .int .i64 2]) (.agg #[.int .i64 1, .int .i64 1])).run Try.prog w = .ok (.bool false) w := fun _ => by kernel_rfl
  have q12 : ∀ w, (binOp .eql 32 (.agg #[.int .i64 2, .int .i64 2]) (.agg #[.int .i64 1, .int .i64 2])).run Try.prog w = .ok (.bool false) w := fun _ => by kernel_rfl
  have q21 : ∀ w, (binOp .eql 32 (.agg #[.int .i64 2, .int .i64 2]) (.agg #[.int .i64 2, .int .i64 1])).run Try.prog w = .ok (.bool false) w := fun _ => by kernel_rfl
  have q22 : ∀ w, (binOp .eql 32 (.agg #[.int .i64 2, .int .i64 2]) (.agg #[.int .i64 2, .int .i64 2])).run Try.prog w = .ok (.bool true) w := fun _ => by kernel_rfl
  go_enter Try.func6, Try.ntmps6
  go_wp2_with fail
  refine wp_world (fun W hW => ?_)
  have hb0 : Below w.heap.size w W := by rw [hW]; exact ((balloc2 w _ _).alloc (by simp; omega) _)
  have hz : w.heap.size + 2 < W.heap.size := by rw [hW]; simp
  have c0 : W.cell? ⟨w.heap.size, 0, none⟩ = some (.int .i64 k) := by rw [hW]; simp [go_sem]
  have c1 : W.cell? ⟨w.heap.size, 1, none⟩ = some (.int .i64 n) := by rw [hW]; simp [go_sem]
  have c2 : W.cell? ⟨w.heap.size, 2, none⟩ = some (.string s) := by rw [hW]; simp [go_sem]
  have d0 : W.cell? ⟨w.heap.size + 1, 0, none⟩ = some (.int .i64 k') := by rw [hW]; simp [go_sem]
  have d1 : W.cell? ⟨w.heap.size + 1, 1, none⟩ = some (.int .i64 n') := by rw [hW]; simp [go_sem]
  have d2 : W.cell? ⟨w.heap.size + 1, 2, none⟩ = some (.string s') := by rw [hW]; simp [go_sem]
  have r0 : W.cell? ⟨w.heap.size + 1 + 1, 0, none⟩ = some (.int .i64 0) := by rw [hW]; simp [go_sem]
  have r1 : W.cell? ⟨w.heap.size + 1 + 1, 1, none⟩ = some (.int .i64 0) := by rw [hW]; simp [go_sem]
  have r2 : W.cell? ⟨w.heap.size + 1 + 1, 2, none⟩ = some (.string { data := #[] }) := by rw [hW]; simp [go_sem]
  have f0 : ∀ o, W.frozen? ⟨w.heap.size + 1 + 1, o, none⟩ = false := by intro o; rw [hW]; simp [go_sem]
  clear hW
  have c0 := cell_regrown c0
  have c1 := cell_regrown c1
  have c2 := cell_regrown c2
  have d0 := cell_regrown d0
  have d1 := cell_regrown d1
  have d2 := cell_regrown d2
  refine wp_region_quiet_below (by kernel_rfl) (by kernel_rfl) ?_
  repeat (quiet_step (first | (with_reducible exact Calls.regrown_of (C _)) | (with_reducible exact Calls.regrown_of (D _))))
  refine wpQuiet_nil ?_
  intro _ hw'
  obtain ⟨⟨dq, osq⟩, hw''⟩ := hw'
  subst hw''
  have hb1 := below_regrown W dq osq
  generalize grow (redrawn W dq) osq = w1 at *
  go_wp2_with (go_at_call 14; refine (null_any _).mono ?_; rintro e w2 ⟨rfl, hb2⟩; obtain ⟨hc1, hf1⟩ := bcell hb1; obtain ⟨hc2, hf2⟩ := bcell hb2; have hz1 : w.heap.size + 2 < w1.heap.size := (by have := hb1.size; omega); have hz2 : w.heap.size + 2 < w2.heap.size := (by have := hb2.size; omega); have g : ∀ o, w2.cell? ⟨w.heap.size + 1 + 1, o, none⟩ = W.cell? ⟨w.heap.size + 1 + 1, o, none⟩ := (fun o => by rw [hc2 _ _ (by omega), hc1 _ _ (by omega)]))
  exact bodyPost_ret (v := tv 0 0) (by simp [results, Try.results6, go_sem, g, r0, r1, r2]) rfl ⟨rfl, b3 ((hb0.trans (hb1.mono (by omega))).trans (hb2.mono (by have := hb1.size; omega))) (by omega) _ _ _⟩
end Go.Proofs.Ytcokkmjfdnigpaa
