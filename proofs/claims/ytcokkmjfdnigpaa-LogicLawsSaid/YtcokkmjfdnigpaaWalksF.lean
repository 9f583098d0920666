/- LogicLaws is true of any three values: the walk. No condition. -/
import Derived.Test.YtcokkmjfdnigpaaWalksE
namespace Go.Proofs.Ytcokkmjfdnigpaa
open Go.ChangeShapes Go.WideShapes Go.ChangeAt Go.RowKit Go.Sort

theorem orT_mem (t u : Int) : orT t u = 0 ∨ orT t u = 1 ∨ orT t u = 2 := notT_mem _
theorem law1 (a b : Int) : andT a b = andT b a := by unfold andT; repeat' split
                                                     all_goals omega
theorem law2 (a b : Int) : orT a b = orT b a := by unfold orT; rw [law1]
theorem law3 {a b : Int} (ha : a = 0 ∨ a = 1 ∨ a = 2) (hb : b = 0 ∨ b = 1 ∨ b = 2) : notT (andT a b) = orT (notT a) (notT b) := by
  rcases ha with rfl | rfl | rfl <;> rcases hb with rfl | rfl | rfl <;> rfl
theorem law4 {a b c : Int} (ha : a = 0 ∨ a = 1 ∨ a = 2) (hb : b = 0 ∨ b = 1 ∨ b = 2) (hc : c = 0 ∨ c = 1 ∨ c = 2) : andT a (andT b c) = andT (andT a b) c := by
  rcases ha with rfl | rfl | rfl <;> rcases hb with rfl | rfl | rfl <;> rcases hc with rfl | rfl | rfl <;> rfl
theorem law5 {a b c : Int} (ha : a = 0 ∨ a = 1 ∨ a = 2) (hb : b = 0 ∨ b = 1 ∨ b = 2) (hc : c = 0 ∨ c = 1 ∨ c = 2) : andT a (orT b c) = orT (andT a b) (andT a c) := by
  rcases ha with rfl | rfl | rfl <;> rcases hb with rfl | rfl | rfl <;> rcases hc with rfl | rfl | rfl <;> rfl
theorem law6 {a : Int} (ha : a = 0 ∨ a = 1 ∨ a = 2) : notT (notT (notT a)) = notT a := by rcases ha with rfl | rfl | rfl <;> rfl

theorem same_eq {t u : Int} (h : t = u) (ht : t = 0 ∨ t = 1 ∨ t = 2) (W : World) : Calls Try.prog 5 #[vt t, vt u] W fun e w' => e = .returned (.bool true) ∧ Below W.heap.size W w' := by
  subst h
  exact (same_vt _ _ ht ht W).mono fun e w' ⟨he, hb⟩ => ⟨by rw [he]; simp, hb⟩

set_option maxHeartbeats 800000 in
set_option maxRecDepth 100000 in
theorem walk_laws (k1 n1 : Int) (s1 : ByteArray) (k2 n2 : Int) (s2 : ByteArray) (k3 n3 : Int) (s3 : ByteArray) (w : World) :
    Calls Try.prog 3 #[gv k1 n1 s1, gv k2 n2 s2, gv k3 n3 s3] w fun e w' => e = .returned (.bool true) ∧ Below w.heap.size w w' := by
  obtain ⟨a, hA⟩ : ∃ a, IsT (gv k1 n1 s1) a := ⟨_, isT_gv _ _ _⟩
  obtain ⟨b, hB⟩ : ∃ b, IsT (gv k2 n2 s2) b := ⟨_, isT_gv _ _ _⟩
  obtain ⟨c, hC⟩ : ∃ c, IsT (gv k3 n3 s3) c := ⟨_, isT_gv _ _ _⟩
  have S1 : ∀ W : World, Calls Try.prog 5 #[vt (andT a b), vt (andT b a)] W fun e w' => e = .returned (.bool true) ∧ Below W.heap.size W w' := same_eq (law1 _ _) (andT_mem _ _)
  have S2 : ∀ W : World, Calls Try.prog 5 #[vt (orT a b), vt (orT b a)] W fun e w' => e = .returned (.bool true) ∧ Below W.heap.size W w' := same_eq (law2 _ _) (orT_mem _ _)
  have S3 : ∀ W : World, Calls Try.prog 5 #[vt (notT (andT a b)), vt (orT (notT a) (notT b))] W fun e w' => e = .returned (.bool true) ∧ Below W.heap.size W w' := same_eq (law3 hA.mem hB.mem) (notT_mem _)
  have S4 : ∀ W : World, Calls Try.prog 5 #[vt (andT a (andT b c)), vt (andT (andT a b) c)] W fun e w' => e = .returned (.bool true) ∧ Below W.heap.size W w' := same_eq (law4 hA.mem hB.mem hC.mem) (andT_mem _ _)
  have S5 : ∀ W : World, Calls Try.prog 5 #[vt (andT a (orT b c)), vt (orT (andT a b) (andT a c))] W fun e w' => e = .returned (.bool true) ∧ Below W.heap.size W w' := same_eq (law5 hA.mem hB.mem hC.mem) (andT_mem _ _)
  have S6 : ∀ W : World, Calls Try.prog 5 #[vt (notT (notT (notT a))), vt (notT a)] W fun e w' => e = .returned (.bool true) ∧ Below W.heap.size W w' := same_eq (law6 hA.mem) (notT_mem _)
  have K := fun W => awake_any W
  go_enter Try.func3, Try.ntmps3
  go_wp2_with fail
  refine wp_world (fun W hW => ?_)
  have hb0 : Below w.heap.size w W := by rw [hW]; exact ((balloc2 w _ _).alloc (by simp; omega) _)
  have c0 : W.cell? ⟨w.heap.size, 0, none⟩ = some (.int .i64 k1) := by rw [hW]; simp [go_sem]
  have c1 : W.cell? ⟨w.heap.size, 1, none⟩ = some (.int .i64 n1) := by rw [hW]; simp [go_sem]
  have c2 : W.cell? ⟨w.heap.size, 2, none⟩ = some (.string s1) := by rw [hW]; simp [go_sem]
  have d0 : W.cell? ⟨w.heap.size + 1, 0, none⟩ = some (.int .i64 k2) := by rw [hW]; simp [go_sem]
  have d1 : W.cell? ⟨w.heap.size + 1, 1, none⟩ = some (.int .i64 n2) := by rw [hW]; simp [go_sem]
  have d2 : W.cell? ⟨w.heap.size + 1, 2, none⟩ = some (.string s2) := by rw [hW]; simp [go_sem]
  have e0 : W.cell? ⟨w.heap.size + 1 + 1, 0, none⟩ = some (.int .i64 k3) := by rw [hW]; simp [go_sem]
  have e1 : W.cell? ⟨w.heap.size + 1 + 1, 1, none⟩ = some (.int .i64 n3) := by rw [hW]; simp [go_sem]
  have e2 : W.cell? ⟨w.heap.size + 1 + 1, 2, none⟩ = some (.string s3) := by rw [hW]; simp [go_sem]
  clear hW
  replace c0 := cell_regrown c0
  replace c1 := cell_regrown c1
  replace c2 := cell_regrown c2
  replace d0 := cell_regrown d0
  replace d1 := cell_regrown d1
  replace d2 := cell_regrown d2
  replace e0 := cell_regrown e0
  replace e1 := cell_regrown e1
  replace e2 := cell_regrown e2
  refine wp_region_quiet_below (by kernel_rfl) (by kernel_rfl) ?_
  repeat (quiet_step (first | (with_reducible exact Calls.regrown_of (S1 _)) | (with_reducible exact Calls.regrown_of (S2 _)) | (with_reducible exact Calls.regrown_of (S3 _)) | (go_at_call 6; exact Calls.regrown_of (and_any _ _ _ _ (by first | exact hA | exact hB | exact hC | exact isT_vt (andT_mem _ _) | exact isT_vt (notT_mem _) | exact isT_vt (orT_mem _ _)) (by first | exact hA | exact hB | exact hC | exact isT_vt (andT_mem _ _) | exact isT_vt (notT_mem _) | exact isT_vt (orT_mem _ _)) _)) | (go_at_call 7; exact Calls.regrown_of (or_any _ _ _ _ (by first | exact hA | exact hB | exact hC | exact isT_vt (andT_mem _ _) | exact isT_vt (notT_mem _) | exact isT_vt (orT_mem _ _)) (by first | exact hA | exact hB | exact hC | exact isT_vt (andT_mem _ _) | exact isT_vt (notT_mem _) | exact isT_vt (orT_mem _ _)) _)) | (go_at_call 8; exact Calls.regrown_of (not_any _ _ (by first | exact hA | exact hB | exact hC | exact isT_vt (andT_mem _ _) | exact isT_vt (notT_mem _) | exact isT_vt (orT_mem _ _)) _))))
  refine wpQuiet_nil ?_
  intro _ hw'
  obtain ⟨⟨dq, osq⟩, hw''⟩ := hw'
  subst hw''
  have hb1 := below_regrown W dq osq
  replace c0 := c0 dq osq
  replace c1 := c1 dq osq
  replace c2 := c2 dq osq
  replace d0 := d0 dq osq
  replace d1 := d1 dq osq
  replace d2 := d2 dq osq
  replace e0 := e0 dq osq
  replace e1 := e1 dq osq
  replace e2 := e2 dq osq
  generalize grow (redrawn W dq) osq = w1 at *
  replace c0 := cell_regrown c0
  replace c1 := cell_regrown c1
  replace c2 := cell_regrown c2
  replace d0 := cell_regrown d0
  replace d1 := cell_regrown d1
  replace d2 := cell_regrown d2
  replace e0 := cell_regrown e0
  replace e1 := cell_regrown e1
  replace e2 := cell_regrown e2
  go_wp2_with fail
  refine wp_region_quiet_below (by kernel_rfl) (by kernel_rfl) ?_
  repeat (quiet_step (first | (with_reducible exact Calls.regrown_of (S4 _)) | (with_reducible exact Calls.regrown_of (S5 _)) | (go_at_call 6; exact Calls.regrown_of (and_any _ _ _ _ (by first | exact hA | exact hB | exact hC | exact isT_vt (andT_mem _ _) | exact isT_vt (notT_mem _) | exact isT_vt (orT_mem _ _)) (by first | exact hA | exact hB | exact hC | exact isT_vt (andT_mem _ _) | exact isT_vt (notT_mem _) | exact isT_vt (orT_mem _ _)) _)) | (go_at_call 7; exact Calls.regrown_of (or_any _ _ _ _ (by first | exact hA | exact hB | exact hC | exact isT_vt (andT_mem _ _) | exact isT_vt (notT_mem _) | exact isT_vt (orT_mem _ _)) (by first | exact hA | exact hB | exact hC | exact isT_vt (andT_mem _ _) | exact isT_vt (notT_mem _) | exact isT_vt (orT_mem _ _)) _)) | (go_at_call 8; exact Calls.regrown_of (not_any _ _ (by first | exact hA | exact hB | exact hC | exact isT_vt (andT_mem _ _) | exact isT_vt (notT_mem _) | exact isT_vt (orT_mem _ _)) _))))
  refine wpQuiet_nil ?_
  intro _ hw'
  obtain ⟨⟨dq, osq⟩, hw''⟩ := hw'
  subst hw''
  have hb2 := below_regrown w1 dq osq
  replace c0 := c0 dq osq
  replace c1 := c1 dq osq
  replace c2 := c2 dq osq
  replace d0 := d0 dq osq
  replace d1 := d1 dq osq
  replace d2 := d2 dq osq
  replace e0 := e0 dq osq
  replace e1 := e1 dq osq
  replace e2 := e2 dq osq
  generalize grow (redrawn w1 dq) osq = w2 at *
  replace c0 := cell_regrown c0
  replace c1 := cell_regrown c1
  replace c2 := cell_regrown c2
  replace d0 := cell_regrown d0
  replace d1 := cell_regrown d1
  replace d2 := cell_regrown d2
  replace e0 := cell_regrown e0
  replace e1 := cell_regrown e1
  replace e2 := cell_regrown e2
  go_wp2_with fail
  refine wp_region_quiet_below (by kernel_rfl) (by kernel_rfl) ?_
  repeat (quiet_step (first | (with_reducible exact Calls.regrown_of (S6 _)) | (with_reducible exact Calls.regrown_of (K _)) | (go_at_call 6; exact Calls.regrown_of (and_any _ _ _ _ (by first | exact hA | exact hB | exact hC | exact isT_vt (andT_mem _ _) | exact isT_vt (notT_mem _) | exact isT_vt (orT_mem _ _)) (by first | exact hA | exact hB | exact hC | exact isT_vt (andT_mem _ _) | exact isT_vt (notT_mem _) | exact isT_vt (orT_mem _ _)) _)) | (go_at_call 7; exact Calls.regrown_of (or_any _ _ _ _ (by first | exact hA | exact hB | exact hC | exact isT_vt (andT_mem _ _) | exact isT_vt (notT_mem _) | exact isT_vt (orT_mem _ _)) (by first | exact hA | exact hB | exact hC | exact isT_vt (andT_mem _ _) | exact isT_vt (notT_mem _) | exact isT_vt (orT_mem _ _)) _)) | (go_at_call 8; exact Calls.regrown_of (not_any _ _ (by first | exact hA | exact hB | exact hC | exact isT_vt (andT_mem _ _) | exact isT_vt (notT_mem _) | exact isT_vt (orT_mem _ _)) _))))
  refine wpQuiet_nil ?_
  intro _ hw'
  obtain ⟨⟨dq, osq⟩, hw''⟩ := hw'
  subst hw''
  have hb3 := below_regrown w2 dq osq
  clear c0 c1 c2 d0 d1 d2 e0 e1 e2
  generalize grow (redrawn w2 dq) osq = w3 at *
  go_wp2
  go_ret
  exact ⟨rfl, keepB hb3 (keepB hb2 (keepB hb1 hb0))⟩
end Go.Proofs.Ytcokkmjfdnigpaa
