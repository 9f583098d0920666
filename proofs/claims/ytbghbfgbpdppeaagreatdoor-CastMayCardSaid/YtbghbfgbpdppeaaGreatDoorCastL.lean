
/- The document's Ok and Clean of any value. -/
import Derived.Test.YtbghbfgbpdppeaaGreatDoorCastF
namespace Go.Proofs.YtbghbfgbpdppeaaGreatDoor
open Go.ChangeShapes Go.WideShapes Go.ChangeAt Go.RowKit
set_option linter.unusedVariables false

theorem rok_0_0y  (s : ByteArray) (h : s.toList.isEmpty = true) (w : World) : Calls Tryz.prog 24 #[gv 0 0 s] w fun e w' => e = .returned (.bool (true)) ∧ Below w.heap.size w w' := by
  go_enter Tryz.func24, Tryz.ntmps24
  go_wp2
  all_goals
    go_ret
    exact ⟨by simp, balloc _ _⟩
theorem rok_0_0n  (s : ByteArray) (h : s.toList.isEmpty = false) (w : World) : Calls Tryz.prog 24 #[gv 0 0 s] w fun e w' => e = .returned (.bool (false)) ∧ Below w.heap.size w w' := by
  go_enter Tryz.func24, Tryz.ntmps24
  go_wp2
  all_goals
    go_ret
    exact ⟨by simp, balloc _ _⟩
theorem rok_0_x (n : Int) (s : ByteArray) (h0 : (n == 0) = false) (w : World) : Calls Tryz.prog 24 #[gv 0 n s] w fun e w' => e = .returned (.bool (false)) ∧ Below w.heap.size w w' := by
  go_enter Tryz.func24, Tryz.ntmps24
  go_wp2
  all_goals
    go_ret
    exact ⟨by simp, balloc _ _⟩
theorem rok_1_0y  (s : ByteArray) (h : s.toList.isEmpty = true) (w : World) : Calls Tryz.prog 24 #[gv 1 0 s] w fun e w' => e = .returned (.bool (true)) ∧ Below w.heap.size w w' := by
  go_enter Tryz.func24, Tryz.ntmps24
  go_wp2
  all_goals
    go_ret
    exact ⟨by simp, balloc _ _⟩
theorem rok_1_0n  (s : ByteArray) (h : s.toList.isEmpty = false) (w : World) : Calls Tryz.prog 24 #[gv 1 0 s] w fun e w' => e = .returned (.bool (false)) ∧ Below w.heap.size w w' := by
  go_enter Tryz.func24, Tryz.ntmps24
  go_wp2
  all_goals
    go_ret
    exact ⟨by simp, balloc _ _⟩
theorem rok_1_1y  (s : ByteArray) (h : s.toList.isEmpty = true) (w : World) : Calls Tryz.prog 24 #[gv 1 1 s] w fun e w' => e = .returned (.bool (true)) ∧ Below w.heap.size w w' := by
  go_enter Tryz.func24, Tryz.ntmps24
  go_wp2
  all_goals
    go_ret
    exact ⟨by simp, balloc _ _⟩
theorem rok_1_1n  (s : ByteArray) (h : s.toList.isEmpty = false) (w : World) : Calls Tryz.prog 24 #[gv 1 1 s] w fun e w' => e = .returned (.bool (false)) ∧ Below w.heap.size w w' := by
  go_enter Tryz.func24, Tryz.ntmps24
  go_wp2
  all_goals
    go_ret
    exact ⟨by simp, balloc _ _⟩
theorem rok_1_x (n : Int) (s : ByteArray) (h0 : (n == 0) = false) (h1 : (n == 1) = false) (w : World) : Calls Tryz.prog 24 #[gv 1 n s] w fun e w' => e = .returned (.bool (false)) ∧ Below w.heap.size w w' := by
  go_enter Tryz.func24, Tryz.ntmps24
  go_wp2
  all_goals
    go_ret
    exact ⟨by simp, balloc _ _⟩
theorem rok_2_0y (n : Int) (s : ByteArray) (h : s.toList.isEmpty = true) (w : World) : Calls Tryz.prog 24 #[gv 2 n s] w fun e w' => e = .returned (.bool (true)) ∧ Below w.heap.size w w' := by
  go_enter Tryz.func24, Tryz.ntmps24
  go_wp2
  all_goals
    go_ret
    exact ⟨by simp, balloc _ _⟩
theorem rok_2_0n (n : Int) (s : ByteArray) (h : s.toList.isEmpty = false) (w : World) : Calls Tryz.prog 24 #[gv 2 n s] w fun e w' => e = .returned (.bool (false)) ∧ Below w.heap.size w w' := by
  go_enter Tryz.func24, Tryz.ntmps24
  go_wp2
  all_goals
    go_ret
    exact ⟨by simp, balloc _ _⟩
theorem rok_3_0  (s : ByteArray) (w : World) : Calls Tryz.prog 24 #[gv 3 0 s] w fun e w' => e = .returned (.bool (true)) ∧ Below w.heap.size w w' := by
  go_enter Tryz.func24, Tryz.ntmps24
  go_wp2
  all_goals
    go_ret
    exact ⟨by simp, balloc _ _⟩
theorem rok_3_x (n : Int) (s : ByteArray) (h0 : (n == 0) = false) (w : World) : Calls Tryz.prog 24 #[gv 3 n s] w fun e w' => e = .returned (.bool (false)) ∧ Below w.heap.size w w' := by
  go_enter Tryz.func24, Tryz.ntmps24
  go_wp2
  all_goals
    go_ret
    exact ⟨by simp, balloc _ _⟩
theorem rok_lo (k n : Int) (s : ByteArray) (h : ¬ 0 ≤ k) (w : World) : Calls Tryz.prog 24 #[gv k n s] w fun e w' => e = .returned (.bool (false)) ∧ Below w.heap.size w w' := by
  go_enter Tryz.func24, Tryz.ntmps24
  go_wp2
  all_goals
    go_ret
    exact ⟨by simp, balloc _ _⟩
theorem rok_hi (k n : Int) (s : ByteArray) (h0 : 0 ≤ k) (h : ¬ k ≤ 3) (w : World) : Calls Tryz.prog 24 #[gv k n s] w fun e w' => e = .returned (.bool (false)) ∧ Below w.heap.size w w' := by
  go_enter Tryz.func24, Tryz.ntmps24
  go_wp2
  all_goals
    go_ret
    exact ⟨by simp, balloc _ _⟩
theorem rok_any (k n : Int) (s : ByteArray) (w : World) : Calls Tryz.prog 24 #[gv k n s] w fun e w' => e = .returned (.bool (okB k n s)) ∧ Below w.heap.size w w' := by
  have key : ∀ b, okB k n s = b → (Calls Tryz.prog 24 #[gv k n s] w fun e w' => e = .returned (.bool b) ∧ Below w.heap.size w w') → (Calls Tryz.prog 24 #[gv k n s] w fun e w' => e = .returned (.bool (okB k n s)) ∧ Below w.heap.size w w') := by
    intro b h x; rw [h]; exact x
  by_cases hl : 0 ≤ k
  · by_cases hh : k ≤ 3
    · have a : k = 0 ∨ k = 1 ∨ k = 2 ∨ k = 3 := by omega
      cases hs : s.toList.isEmpty
      · rcases a with rfl | rfl | rfl | rfl
        · by_cases h0 : n = 0
          · subst h0; exact key _ (by simp [okB, hs]) (rok_0_0n s hs w)
          · exact key _ (by simp [okB, hs]) (rok_0_x n s (by simpa using h0) w)
        · by_cases h0 : n = 0
          · subst h0; exact key _ (by simp [okB, hs]) (rok_1_0n s hs w)
          · by_cases h1 : n = 1
            · subst h1; exact key _ (by simp [okB, hs]) (rok_1_1n s hs w)
            · exact key _ (by simp [okB, hs]) (rok_1_x n s (by simpa using h0) (by simpa using h1) w)
        · exact key _ (by simp [okB, hs]) (rok_2_0n n s hs w)
        · by_cases h0 : n = 0
          · subst h0; exact key _ (by simp [okB]) (rok_3_0 s w)
          · exact key _ (by simp [okB, h0]) (rok_3_x n s (by simpa using h0) w)
      · rcases a with rfl | rfl | rfl | rfl
        · by_cases h0 : n = 0
          · subst h0; exact key _ (by simp [okB, hs]) (rok_0_0y s hs w)
          · exact key _ (by simp [okB, h0]) (rok_0_x n s (by simpa using h0) w)
        · by_cases h0 : n = 0
          · subst h0; exact key _ (by simp [okB, hs]) (rok_1_0y s hs w)
          · by_cases h1 : n = 1
            · subst h1; exact key _ (by simp [okB, hs]) (rok_1_1y s hs w)
            · exact key _ (by simp [okB, h0, h1]) (rok_1_x n s (by simpa using h0) (by simpa using h1) w)
        · exact key _ (by simp [okB, hs]) (rok_2_0y n s hs w)
        · by_cases h0 : n = 0
          · subst h0; exact key _ (by simp [okB]) (rok_3_0 s w)
          · exact key _ (by simp [okB, h0]) (rok_3_x n s (by simpa using h0) w)
    · refine key false ?_ (rok_hi k n s hl hh w)
      unfold okB
      rw [if_neg (by omega), if_neg (by omega), if_neg (by omega)]
      have : (k == 3) = false := by simp; omega
      rw [this]; rfl
  · refine key false ?_ (rok_lo k n s hl w)
    unfold okB
    rw [if_neg (by omega), if_neg (by omega), if_neg (by omega)]
    have : (k == 3) = false := by simp; omega
    rw [this]; rfl

theorem clean_yes (k n : Int) (s : ByteArray) (w : World) (h : okB k n s = true) : Calls Tryz.prog 13 #[gv k n s] w fun e w' => e = .returned (gv k n s) ∧ Below w.heap.size w w' := by
  have C := Lib.hid fun W => by have := rok_any k n s W; rw [h] at this; exact this
  clear h
  go_enter Tryz.func13, Tryz.ntmps13
  go_wp2_with (go_at_call 24; (with_reducible refine (C.out _).mono ?_); rintro e w1 ⟨rfl, hb⟩; obtain ⟨hc, hf⟩ := bcell hb; have hz : w.heap.size + 1 < w1.heap.size := (by have := hb.size; simp at this; omega))
  exact bodyPost_ret (v := gv k n s) (by simp [results, Tryz.results13, go_sem, hc]) rfl ⟨rfl, b3 (bafter2 hb) (by omega) _ _ _⟩
end Go.Proofs.YtbghbfgbpdppeaaGreatDoor
