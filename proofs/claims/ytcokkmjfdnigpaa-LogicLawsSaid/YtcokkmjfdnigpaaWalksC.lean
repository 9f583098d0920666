/- logic.And over any two values; logic.Or, Is, All of none, Test; the document's Test; the law's own look: each function's answer; no condition. -/
import Derived.Test.YtcokkmjfdnigpaaWalksB
import Derived.Test.YtcokkmjfdnigpaaQuietTail
namespace Go.Proofs.Ytcokkmjfdnigpaa
open Go.ChangeShapes Go.WideShapes Go.ChangeAt Go.RowKit Go.Sort

theorem keepB {A w0 w1 : World} (hb : Below w0.heap.size w0 w1) (h : Below A.heap.size A w0) : Below A.heap.size A w1 := h.trans (hb.mono h.size)

theorem and_any (v v' : Value) (t u : Int) (h : IsT v t) (h' : IsT v' u) (w : World) :
    Calls Try.prog 6 #[v, v'] w fun e w' => e = .returned (vt (andT t u)) ∧ Below w.heap.size w w' := by
  have ht := h.mem
  have hu := h'.mem
  obtain ⟨k, n, s, rfl, e1⟩ := h
  obtain ⟨k', n', s', rfl, e2⟩ := h'
  have C : ∀ W : World, Calls Try.prog 12 #[gv k n s] W fun e w' => e = .returned (.int .i64 t) ∧ Below W.heap.size W w' := fun W => by rw [← e1]; exact truth_any k n s W
  have D : ∀ W : World, Calls Try.prog 12 #[gv k' n' s'] W fun e w' => e = .returned (.int .i64 u) ∧ Below W.heap.size W w' := fun W => by rw [← e2]; exact truth_any k' n' s' W
  clear e1 e2
  rcases ht with rfl | rfl | rfl
  · rcases hu with rfl | rfl | rfl
    · exact (and_00 k n s k' n' s' w C D).mono fun e w' ⟨he, hb⟩ => ⟨by rw [he]; rfl, hb⟩
    · exact (and_01 k n s k' n' s' w C D).mono fun e w' ⟨he, hb⟩ => ⟨by rw [he]; rfl, hb⟩
    · exact (and_02 k n s k' n' s' w C D).mono fun e w' ⟨he, hb⟩ => ⟨by rw [he]; rfl, hb⟩
  · rcases hu with rfl | rfl | rfl
    · exact (and_10 k n s k' n' s' w C D).mono fun e w' ⟨he, hb⟩ => ⟨by rw [he]; rfl, hb⟩
    · exact (and_11 k n s k' n' s' w C D).mono fun e w' ⟨he, hb⟩ => ⟨by rw [he]; rfl, hb⟩
    · exact (and_12 k n s k' n' s' w C D).mono fun e w' ⟨he, hb⟩ => ⟨by rw [he]; rfl, hb⟩
  · rcases hu with rfl | rfl | rfl
    · exact (and_20 k n s k' n' s' w C D).mono fun e w' ⟨he, hb⟩ => ⟨by rw [he]; rfl, hb⟩
    · exact (and_21 k n s k' n' s' w C D).mono fun e w' ⟨he, hb⟩ => ⟨by rw [he]; rfl, hb⟩
    · exact (and_22 k n s k' n' s' w C D).mono fun e w' ⟨he, hb⟩ => ⟨by rw [he]; rfl, hb⟩

theorem or_any (v v' : Value) (t u : Int) (h : IsT v t) (h' : IsT v' u) (w : World) :
    Calls Try.prog 7 #[v, v'] w fun e w' => e = .returned (vt (orT t u)) ∧ Below w.heap.size w w' := by
  have hA := h
  have hB := h'
  obtain ⟨k, n, s, rfl, e1⟩ := h
  obtain ⟨k', n', s', rfl, e2⟩ := h'
  clear e1 e2
  have hN := notT_mem (andT (notT t) (notT u))
  have hv : ∃ a b : Int, vt (orT t u) = tv a b := by
    unfold orT
    rcases hN with e | e | e <;> rw [e]
    · exact ⟨1, 0, rfl⟩
    · exact ⟨1, 1, rfl⟩
    · exact ⟨0, 0, rfl⟩
  obtain ⟨x, y, hv⟩ := hv
  have N : ∀ (W : World), Calls Try.prog 8 #[vt (andT (notT t) (notT u))] W fun e w' => e = .returned (tv x y) ∧ Below W.heap.size W w' := fun W =>
    (not_any _ _ (isT_vt (andT_mem _ _)) W).mono fun e w' ⟨he, hb⟩ => ⟨by rw [he]; exact congrArg Ending.returned hv, hb⟩
  rw [hv]
  have A : ∀ (W : World), Calls Try.prog 6 #[vt (notT t), vt (notT u)] W fun e w' => e = .returned (vt (andT (notT t) (notT u))) ∧ Below W.heap.size W w' := fun W =>
    and_any _ _ _ _ (isT_vt (notT_mem _)) (isT_vt (notT_mem _)) W
  have NA : ∀ (W : World), Calls Try.prog 8 #[gv k n s] W fun e w' => e = .returned (vt (notT t)) ∧ Below W.heap.size W w' := fun W => not_any _ _ hA W
  have NB : ∀ (W : World), Calls Try.prog 8 #[gv k' n' s'] W fun e w' => e = .returned (vt (notT u)) ∧ Below W.heap.size W w' := fun W => not_any _ _ hB W
  clear hv hN hA hB
  generalize andT (notT t) (notT u) = q at *
  generalize notT t = t1 at *
  generalize notT u = u1 at *
  go_enter Try.func7, Try.ntmps7
  go_wp2_with fail
  refine wp_world (fun W hW => ?_)
  have hb0 : Below w.heap.size w W := by rw [hW]; exact ((balloc2 w _ _).alloc (by simp; omega) _)
  have hz : w.heap.size + 2 < W.heap.size := by rw [hW]; simp
  have c0 : W.cell? ⟨w.heap.size, 0, none⟩ = some (.int .i64 k) := by rw [hW]; simp [go_sem]
  have c1 : W.cell? ⟨w.heap.size, 1, none⟩ = some (.int .i64 n) := by rw [hW]; simp [go_sem]
  have c2 : W.cell? ⟨w.heap.size, 2, none⟩ = some (.string s) := by rw [hW]; simp [go_sem]
  have d0 : W.cell? ⟨w.heap.size + 1, 0, none⟩ = some (.int .i64 k') := by rw [hW]; simp [go_sem]
  have d1 : W.cell? ⟨w.heap.size + 1, 1, none⟩ = some (.int .i64 n') := by rw [hW]; simp [go_sem]
  have d2 : W.cell? ⟨w.heap.size + 1, 2, none⟩ = some (.string s') := by rw [hW]; simp [go_sem]
  have r0 : W.cell? ⟨w.heap.size + 1 + 1, 0, none⟩ = some (.int .i64 0) := by rw [hW]; simp [go_sem]
  have r1 : W.cell? ⟨w.heap.size + 1 + 1, 1, none⟩ = some (.int .i64 0) := by rw [hW]; simp [go_sem]
  have r2 : W.cell? ⟨w.heap.size + 1 + 1, 2, none⟩ = some (.string { data := #[] }) := by rw [hW]; simp [go_sem]
  have f0 : ∀ o, W.frozen? ⟨w.heap.size + 1 + 1, o, none⟩ = false := by intro o; rw [hW]; simp [go_sem]
  clear hW
  have c0 := cell_regrown c0
  have c1 := cell_regrown c1
  have c2 := cell_regrown c2
  have d0 := cell_regrown d0
  have d1 := cell_regrown d1
  have d2 := cell_regrown d2
  refine wp_region_below_tail 6 (by kernel_rfl) (by kernel_rfl) ?_
  simp only [List.take_succ_cons, List.take_zero, List.drop_succ_cons, List.drop_zero]
  repeat (quiet_step (first | (with_reducible exact Calls.regrown_of (NA _)) | (with_reducible exact Calls.regrown_of (NB _)) | (with_reducible exact Calls.regrown_of (A _)) | (with_reducible exact Calls.regrown_of (N _))))
  refine wpQuiet_nil ?_
  intro _ hw'
  obtain ⟨⟨dq, osq⟩, hw''⟩ := hw'
  subst hw''
  have hb1 := below_regrown W dq osq
  generalize grow (redrawn W dq) osq = w1 at *
  obtain ⟨hc1, hf1⟩ := bcell hb1
  have hz1 : w.heap.size + 2 < w1.heap.size := by have := hb1.size; omega
  have g : ∀ o, w1.cell? ⟨w.heap.size + 1 + 1, o, none⟩ = W.cell? ⟨w.heap.size + 1 + 1, o, none⟩ := fun o => by rw [hc1 _ _ (by omega)]
  have g2 : ∀ o, w1.frozen? ⟨w.heap.size + 1 + 1, o, none⟩ = false := fun o => by rw [hf1 _ _ (by omega), f0]
  go_wp2
  exact bodyPost_ret (v := tv x y) (by simp [results, Try.results7, go_sem, g, r0, r1, r2]) rfl ⟨rfl, b3 (hb0.trans (hb1.mono (by omega))) (by omega) _ _ _⟩
end Go.Proofs.Ytcokkmjfdnigpaa
