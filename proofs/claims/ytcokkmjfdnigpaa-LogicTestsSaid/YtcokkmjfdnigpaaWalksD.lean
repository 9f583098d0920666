/- logic.Test and the document's Test, for every argument; no condition. -/
import Derived.Test.YtcokkmjfdnigpaaWalksC
namespace Go.Proofs.Ytcokkmjfdnigpaa
open Go.ChangeShapes Go.WideShapes Go.ChangeAt Go.RowKit Go.Sort

def testT (op k : Int) (known : Bool) : Int :=
  if known = false then 2 else if op = 1 then b2t (k == 0) else if op = 2 then b2t (k != 0) else if op = 3 then b2t (decide (k < 0))
  else if op = 4 then b2t (decide (k ≤ 0)) else if op = 5 then b2t (decide (0 < k)) else if op = 6 then b2t (decide (0 ≤ k)) else 2
theorem b2t_mem (b : Bool) : b2t b = 0 ∨ b2t b = 1 := by cases b <;> simp [b2t]
theorem b2t_mem3 (b : Bool) : b2t b = 0 ∨ b2t b = 1 ∨ b2t b = 2 := by cases b <;> simp [b2t]
theorem vt_b2t (b : Bool) : vt (b2t b) = tv 1 (b2t b) := by cases b <;> rfl
theorem testT_mem (op k : Int) (known : Bool) : testT op k known = 0 ∨ testT op k known = 1 ∨ testT op k known = 2 := by
  unfold testT
  repeat' split
  all_goals first | exact b2t_mem3 _ | (right; right; rfl)

theorem test_any (op k : Int) (known : Bool) (w : World) : Calls Try.prog 10 #[.int .i64 op, .int .i64 k, .bool known] w fun e w' => e = .returned (vt (testT op k known)) ∧ Below w.heap.size w w' := by
  cases known
  · have e : vt (testT op k false) = tv 0 0 := by simp [testT, vt]
    rw [e]
    clear e
    go_enter Try.func10, Try.ntmps10
    go_wp2_with (go_at_call 14; refine (null_any _).mono ?_; rintro e w' ⟨rfl, hb⟩; obtain ⟨hc, hf⟩ := bcell hb; have hz : w.heap.size < w'.heap.size := (by have := hb.size; simp at this; omega))
    exact bodyPost_ret (v := tv 0 0) (by simp [results, Try.results10, go_sem, hc]) rfl ⟨rfl, b3 (bafter hb) (Nat.le_refl _) _ _ _⟩
  · by_cases h1 : op = 1
    · subst h1
      have e : vt (testT 1 k true) = tv 1 (b2t (k == 0)) := by rw [← vt_b2t]; rfl
      rw [e]
      clear e
      go_enter Try.func10, Try.ntmps10
      go_wp2_with (go_at_call 13; refine (bool_any _ _).mono ?_; rintro e w' ⟨rfl, hb⟩; obtain ⟨hc, hf⟩ := bcell hb; have hz : w.heap.size < w'.heap.size := (by have := hb.size; simp at this; omega))
      exact bodyPost_ret (v := tv 1 (b2t (k == 0))) (by simp [results, Try.results10, go_sem, hc]) rfl ⟨rfl, b3 (bafter hb) (Nat.le_refl _) _ _ _⟩
    by_cases h2 : op = 2
    · subst h2
      have e : vt (testT 2 k true) = tv 1 (b2t (k != 0)) := by rw [← vt_b2t]; rfl
      rw [e]
      clear e
      go_enter Try.func10, Try.ntmps10
      go_wp2_with (go_at_call 13; refine (bool_any _ _).mono ?_; rintro e w' ⟨rfl, hb⟩; obtain ⟨hc, hf⟩ := bcell hb; have hz : w.heap.size < w'.heap.size := (by have := hb.size; simp at this; omega))
      exact bodyPost_ret (v := tv 1 (b2t (k != 0))) (by simp [results, Try.results10, go_sem, hc]) rfl ⟨rfl, b3 (bafter hb) (Nat.le_refl _) _ _ _⟩
    by_cases h3 : op = 3
    · subst h3
      have e : vt (testT 3 k true) = tv 1 (b2t (decide (k < 0))) := by rw [← vt_b2t]; rfl
      rw [e]
      clear e
      go_enter Try.func10, Try.ntmps10
      go_wp2_with (go_at_call 13; refine (bool_any _ _).mono ?_; rintro e w' ⟨rfl, hb⟩; obtain ⟨hc, hf⟩ := bcell hb; have hz : w.heap.size < w'.heap.size := (by have := hb.size; simp at this; omega))
      exact bodyPost_ret (v := tv 1 (b2t (decide (k < 0)))) (by simp [results, Try.results10, go_sem, hc]) rfl ⟨rfl, b3 (bafter hb) (Nat.le_refl _) _ _ _⟩
    by_cases h4 : op = 4
    · subst h4
      have e : vt (testT 4 k true) = tv 1 (b2t (decide (k ≤ 0))) := by rw [← vt_b2t]; rfl
      rw [e]
      clear e
      go_enter Try.func10, Try.ntmps10
      go_wp2_with (go_at_call 13; refine (bool_any _ _).mono ?_; rintro e w' ⟨rfl, hb⟩; obtain ⟨hc, hf⟩ := bcell hb; have hz : w.heap.size < w'.heap.size := (by have := hb.size; simp at this; omega))
      exact bodyPost_ret (v := tv 1 (b2t (decide (k ≤ 0)))) (by simp [results, Try.results10, go_sem, hc]) rfl ⟨rfl, b3 (bafter hb) (Nat.le_refl _) _ _ _⟩
    by_cases h5 : op = 5
    · subst h5
      have e : vt (testT 5 k true) = tv 1 (b2t (decide (0 < k))) := by rw [← vt_b2t]; rfl
      rw [e]
      clear e
      go_enter Try.func10, Try.ntmps10
      go_wp2_with (go_at_call 13; refine (bool_any _ _).mono ?_; rintro e w' ⟨rfl, hb⟩; obtain ⟨hc, hf⟩ := bcell hb; have hz : w.heap.size < w'.heap.size := (by have := hb.size; simp at this; omega))
      exact bodyPost_ret (v := tv 1 (b2t (decide (0 < k)))) (by simp [results, Try.results10, go_sem, hc]) rfl ⟨rfl, b3 (bafter hb) (Nat.le_refl _) _ _ _⟩
    by_cases h6 : op = 6
    · subst h6
      have e : vt (testT 6 k true) = tv 1 (b2t (decide (0 ≤ k))) := by rw [← vt_b2t]; rfl
      rw [e]
      clear e
      go_enter Try.func10, Try.ntmps10
      go_wp2_with (go_at_call 13; refine (bool_any _ _).mono ?_; rintro e w' ⟨rfl, hb⟩; obtain ⟨hc, hf⟩ := bcell hb; have hz : w.heap.size < w'.heap.size := (by have := hb.size; simp at this; omega))
      exact bodyPost_ret (v := tv 1 (b2t (decide (0 ≤ k)))) (by simp [results, Try.results10, go_sem, hc]) rfl ⟨rfl, b3 (bafter hb) (Nat.le_refl _) _ _ _⟩
    have e : vt (testT op k true) = tv 0 0 := by simp [testT, vt, h1, h2, h3, h4, h5, h6]
    rw [e]
    clear e
    have g1 : (op == 1) = false := by simpa using h1
    have g2 : (op == 2) = false := by simpa using h2
    have g3 : (op == 3) = false := by simpa using h3
    have g4 : (op == 4) = false := by simpa using h4
    have g5 : (op == 5) = false := by simpa using h5
    have g6 : (op == 6) = false := by simpa using h6
    go_enter Try.func10, Try.ntmps10
    go_wp2_with (go_at_call 14; refine (null_any _).mono ?_; rintro e w' ⟨rfl, hb⟩; obtain ⟨hc, hf⟩ := bcell hb; have hz : w.heap.size < w'.heap.size := (by have := hb.size; simp at this; omega))
    exact bodyPost_ret (v := tv 0 0) (by simp [results, Try.results10, go_sem, hc]) rfl ⟨rfl, b3 (bafter hb) (Nat.le_refl _) _ _ _⟩

theorem rtest_any (op k : Int) (known : Bool) (w : World) : Calls Try.prog 11 #[.int .i64 op, .int .i64 k, .bool known] w fun e w' => e = .returned (vt (testT op k known)) ∧ Below w.heap.size w w' := by
  cases known
  · have e : vt (testT op k false) = tv 0 0 := by simp [testT, vt]
    rw [e]
    clear e
    go_enter Try.func11, Try.ntmps11
    go_wp2
    exact bodyPost_ret (v := tv 0 0) (by simp [results, Try.results11, go_sem]) rfl ⟨rfl, balloc _ _⟩
  · by_cases h1 : op = 1
    · subst h1
      have e : vt (testT 1 k true) = tv 1 (b2t (k == 0)) := by rw [← vt_b2t]; rfl
      rw [e]
      clear e
      go_enter Try.func11, Try.ntmps11
      go_wp2_with (go_at_call 16; refine (rbool_any _ _).mono ?_; rintro e w' ⟨rfl, hb⟩; obtain ⟨hc, hf⟩ := bcell hb; have hz : w.heap.size < w'.heap.size := (by have := hb.size; simp at this; omega))
      exact bodyPost_ret (v := tv 1 (b2t (k == 0))) (by simp [results, Try.results11, go_sem, hc]) rfl ⟨rfl, b3 (bafter hb) (Nat.le_refl _) _ _ _⟩
    by_cases h2 : op = 2
    · subst h2
      have e : vt (testT 2 k true) = tv 1 (b2t (k != 0)) := by rw [← vt_b2t]; rfl
      rw [e]
      clear e
      go_enter Try.func11, Try.ntmps11
      go_wp2_with (go_at_call 16; refine (rbool_any _ _).mono ?_; rintro e w' ⟨rfl, hb⟩; obtain ⟨hc, hf⟩ := bcell hb; have hz : w.heap.size < w'.heap.size := (by have := hb.size; simp at this; omega))
      exact bodyPost_ret (v := tv 1 (b2t (k != 0))) (by simp [results, Try.results11, go_sem, hc]) rfl ⟨rfl, b3 (bafter hb) (Nat.le_refl _) _ _ _⟩
    by_cases h3 : op = 3
    · subst h3
      have e : vt (testT 3 k true) = tv 1 (b2t (decide (k < 0))) := by rw [← vt_b2t]; rfl
      rw [e]
      clear e
      go_enter Try.func11, Try.ntmps11
      go_wp2_with (go_at_call 16; refine (rbool_any _ _).mono ?_; rintro e w' ⟨rfl, hb⟩; obtain ⟨hc, hf⟩ := bcell hb; have hz : w.heap.size < w'.heap.size := (by have := hb.size; simp at this; omega))
      exact bodyPost_ret (v := tv 1 (b2t (decide (k < 0)))) (by simp [results, Try.results11, go_sem, hc]) rfl ⟨rfl, b3 (bafter hb) (Nat.le_refl _) _ _ _⟩
    by_cases h4 : op = 4
    · subst h4
      have e : vt (testT 4 k true) = tv 1 (b2t (decide (k ≤ 0))) := by rw [← vt_b2t]; rfl
      rw [e]
      clear e
      go_enter Try.func11, Try.ntmps11
      go_wp2_with (go_at_call 16; refine (rbool_any _ _).mono ?_; rintro e w' ⟨rfl, hb⟩; obtain ⟨hc, hf⟩ := bcell hb; have hz : w.heap.size < w'.heap.size := (by have := hb.size; simp at this; omega))
      exact bodyPost_ret (v := tv 1 (b2t (decide (k ≤ 0)))) (by simp [results, Try.results11, go_sem, hc]) rfl ⟨rfl, b3 (bafter hb) (Nat.le_refl _) _ _ _⟩
    by_cases h5 : op = 5
    · subst h5
      have e : vt (testT 5 k true) = tv 1 (b2t (decide (0 < k))) := by rw [← vt_b2t]; rfl
      rw [e]
      clear e
      go_enter Try.func11, Try.ntmps11
      go_wp2_with (go_at_call 16; refine (rbool_any _ _).mono ?_; rintro e w' ⟨rfl, hb⟩; obtain ⟨hc, hf⟩ := bcell hb; have hz : w.heap.size < w'.heap.size := (by have := hb.size; simp at this; omega))
      exact bodyPost_ret (v := tv 1 (b2t (decide (0 < k)))) (by simp [results, Try.results11, go_sem, hc]) rfl ⟨rfl, b3 (bafter hb) (Nat.le_refl _) _ _ _⟩
    by_cases h6 : op = 6
    · subst h6
      have e : vt (testT 6 k true) = tv 1 (b2t (decide (0 ≤ k))) := by rw [← vt_b2t]; rfl
      rw [e]
      clear e
      go_enter Try.func11, Try.ntmps11
      go_wp2_with (go_at_call 16; refine (rbool_any _ _).mono ?_; rintro e w' ⟨rfl, hb⟩; obtain ⟨hc, hf⟩ := bcell hb; have hz : w.heap.size < w'.heap.size := (by have := hb.size; simp at this; omega))
      exact bodyPost_ret (v := tv 1 (b2t (decide (0 ≤ k)))) (by simp [results, Try.results11, go_sem, hc]) rfl ⟨rfl, b3 (bafter hb) (Nat.le_refl _) _ _ _⟩
    have e : vt (testT op k true) = tv 0 0 := by simp [testT, vt, h1, h2, h3, h4, h5, h6]
    rw [e]
    clear e
    have g1 : (op == 1) = false := by simpa using h1
    have g2 : (op == 2) = false := by simpa using h2
    have g3 : (op == 3) = false := by simpa using h3
    have g4 : (op == 4) = false := by simpa using h4
    have g5 : (op == 5) = false := by simpa using h5
    have g6 : (op == 6) = false := by simpa using h6
    go_enter Try.func11, Try.ntmps11
    go_wp2
    exact bodyPost_ret (v := tv 0 0) (by simp [results, Try.results11, go_sem]) rfl ⟨rfl, balloc _ _⟩
end Go.Proofs.Ytcokkmjfdnigpaa
