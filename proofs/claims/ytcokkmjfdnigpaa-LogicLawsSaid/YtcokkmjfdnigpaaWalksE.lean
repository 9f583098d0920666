/- The law's own look (awake) is true; LogicTests is true: the walks. No condition. -/
import Derived.Test.YtcokkmjfdnigpaaWalksD
namespace Go.Proofs.Ytcokkmjfdnigpaa
open Go.ChangeShapes Go.WideShapes Go.ChangeAt Go.RowKit Go.Sort

theorem is_any (v : Value) (t : Int) (h : IsT v t) (w : World) : Calls Try.prog 17 #[v] w fun e w' => e = .returned (.bool (t == 1)) ∧ Below w.heap.size w w' := by
  obtain ⟨k, n, s, rfl, e1⟩ := h
  have C : ∀ W : World, Calls Try.prog 12 #[gv k n s] W fun e w' => e = .returned (.int .i64 t) ∧ Below W.heap.size W w' := fun W => by rw [← e1]; exact truth_any k n s W
  clear e1
  by_cases ht : t = 1
  · subst ht
    go_enter Try.func17, Try.ntmps17
    go_wp2_with (go_at_call 12; refine (C _).mono ?_; rintro e w' ⟨rfl, hb⟩)
    go_ret
    exact ⟨by simp, bafter hb⟩
  · have ht' : (t == 1) = false := by simpa using ht
    go_enter Try.func17, Try.ntmps17
    go_wp2_with (go_at_call 12; refine (C _).mono ?_; rintro e w' ⟨rfl, hb⟩)
    go_ret
    exact ⟨by simp [ht'], bafter hb⟩

theorem all_nil (w : World) : Calls Try.prog 18 #[.slice none 0 0] w fun e w' => e = .returned (tv 1 1) ∧ Below w.heap.size w w' := by
  go_enter Try.func18, Try.ntmps18
  go_wp2_with (go_at_call 13; refine (bool_any true _).mono ?_; rintro e w' ⟨rfl, hb⟩; obtain ⟨hc, hf⟩ := bcell hb; have hz : w.heap.size < w'.heap.size := (by have := hb.size; simp at this; omega))
  refine wp_loop_rounds 1 ?_
  rw [rounds_succ]
  go_wp2
  exact bodyPost_ret (v := tv 1 1) (by simp [results, Try.results18, go_sem, hc, hz, b2t]) rfl ⟨rfl, (b3 (bafter hb) (Nat.le_refl _) _ _ _).alloc (by simp; omega) _⟩

theorem same_vt (t u : Int) (ht : t = 0 ∨ t = 1 ∨ t = 2) (hu : u = 0 ∨ u = 1 ∨ u = 2) (w : World) : Calls Try.prog 5 #[vt t, vt u] w fun e w' => e = .returned (.bool (t == u)) ∧ Below w.heap.size w w' := by
  rcases ht with rfl | rfl | rfl
  · rcases hu with rfl | rfl | rfl
    · exact same_any 1 0 1 0 w
    · exact same_any 1 0 1 1 w
    · exact same_any 1 0 0 0 w
  · rcases hu with rfl | rfl | rfl
    · exact same_any 1 1 1 0 w
    · exact same_any 1 1 1 1 w
    · exact same_any 1 1 0 0 w
  · rcases hu with rfl | rfl | rfl
    · exact same_any 0 0 1 0 w
    · exact same_any 0 0 1 1 w
    · exact same_any 0 0 0 0 w

theorem awake_any (w : World) : Calls Try.prog 9 #[] w fun e w' => e = .returned (.bool true) ∧ Below w.heap.size w w' := by
  have n0 : IsT (tv 0 0) 2 := isT_vt (t := 2) (by simp)
  have n1 : IsT (tv 1 1) 1 := isT_vt (t := 1) (by simp)
  have A : ∀ W : World, Calls Try.prog 7 #[tv 0 0, tv 1 1] W fun e w' => e = .returned (tv 1 1) ∧ Below W.heap.size W w' := fun W => or_any _ _ 2 1 n0 n1 W
  have B : ∀ W : World, Calls Try.prog 17 #[tv 1 1] W fun e w' => e = .returned (.bool true) ∧ Below W.heap.size W w' := fun W => is_any _ 1 n1 W
  have C : ∀ W : World, Calls Try.prog 6 #[tv 0 0, tv 1 1] W fun e w' => e = .returned (tv 0 0) ∧ Below W.heap.size W w' := fun W => and_any _ _ 2 1 n0 n1 W
  have D : ∀ W : World, Calls Try.prog 8 #[tv 1 1] W fun e w' => e = .returned (tv 1 0) ∧ Below W.heap.size W w' := fun W => not_any _ 1 n1 W
  have E : ∀ W : World, Calls Try.prog 16 #[.bool true] W fun e w' => e = .returned (tv 1 1) ∧ Below W.heap.size W w' := fun W => rbool_any true W
  have F : ∀ W : World, Calls Try.prog 18 #[.slice none 0 0] W fun e w' => e = .returned (tv 1 1) ∧ Below W.heap.size W w' := fun W => all_nil W
  have f0 : ∀ w, (Instr.field 23 (tv 0 0) 0).run Try.prog w = .ok (.int .i64 0) w := fun _ => by kernel_rfl
  have f1 : ∀ w, (Instr.field 23 (tv 1 0) 0).run Try.prog w = .ok (.int .i64 1) w := fun _ => by kernel_rfl
  go_enter Try.func9, Try.ntmps9
  go_wp2_with (first | (go_at_call 16; refine (E _).mono ?_; rintro e w1 ⟨rfl, hb1⟩) | (go_at_call 7; refine (A _).mono ?_; rintro e w2 ⟨rfl, hb2⟩; obtain ⟨hc2, hf2⟩ := bcell hb2; have hz2 : w1.heap.size < w2.heap.size := (by have := hb2.size; simp at this; omega)) | (go_at_call 6; refine (C _).mono ?_; rintro e w4 ⟨rfl, hb4⟩; obtain ⟨hc4, hf4⟩ := bcell hb4; have hz4 : w1.heap.size < w4.heap.size := (by have := hb4.size; omega)) | (go_at_call 8; refine (D _).mono ?_; rintro e w5 ⟨rfl, hb5⟩; obtain ⟨hc5, hf5⟩ := bcell hb5) | (go_at_call 18; refine (F _).mono ?_; rintro e w6 ⟨rfl, hb6⟩) | (go_at_call 17; refine (B _).mono ?_; rintro e w3 ⟨rfl, hb3⟩; obtain ⟨hc3, hf3⟩ := bcell hb3; have hz3 : w1.heap.size < w3.heap.size := (by have := hb3.size; omega)) | (go_at_call 17; refine (B _).mono ?_; rintro e w7 ⟨rfl, hb7⟩))
  go_ret
  exact ⟨rfl, keepB hb7 (keepB hb6 (keepB hb5 (keepB hb4 (keepB hb3 (keepB hb2 (hb1.alloc hb1.size _))))))⟩

theorem walk_tests (op cmp : Int) (known : Bool) (w : World) : Calls Try.prog 4 #[.int .i64 op, .int .i64 cmp, .bool known] w fun e w' => e = .returned (.bool true) ∧ Below w.heap.size w w' := by
  have S : ∀ (t : Int) (W : World), Calls Try.prog 5 #[vt (testT op t known), vt (testT op t known)] W fun e w' => e = .returned (.bool true) ∧ Below W.heap.size W w' := fun t W => (same_vt _ _ (testT_mem _ _ _) (testT_mem _ _ _) W).mono fun e w' ⟨he, hb⟩ => ⟨by rw [he]; simp, hb⟩
  go_enter Try.func4, Try.ntmps4
  go_wp2_with (first | (go_at_call 10; refine (test_any _ _ _ _).mono ?_; rintro e w1 ⟨rfl, hb1⟩) | (go_at_call 11; refine (rtest_any _ _ _ _).mono ?_; rintro e w2 ⟨rfl, hb2⟩) | (go_at_call 5; refine (S _ _).mono ?_; rintro e w3 ⟨rfl, hb3⟩) | (go_at_call 9; refine (awake_any _).mono ?_; rintro e w4 ⟨rfl, hb4⟩))
  go_ret
  exact ⟨rfl, keepB hb4 (keepB hb3 (keepB hb2 hb1))⟩
end Go.Proofs.Ytcokkmjfdnigpaa
