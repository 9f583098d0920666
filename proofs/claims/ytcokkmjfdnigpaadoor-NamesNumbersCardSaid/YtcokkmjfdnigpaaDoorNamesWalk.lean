/- NamesNumbers is true: the walk. No condition. -/
import Derived.Test.YtcokkmjfdnigpaaDoorNames
import Derived.Test.YtcokkmjfdnigpaaDoorShelfItoa
namespace Go.Proofs.YtcokkmjfdnigpaaDoor
open Go.ChangeShapes Go.WideShapes Go.ChangeAt Go.RowKit

theorem pairCells_length (l : List Int) : (pairCells l).length = 2 * l.length := by
  unfold pairCells
  induction l with
  | nil => rfl
  | cons x r ih => simp only [List.map_cons, List.flatten_cons, List.length_append, ih]; simp; omega
theorem pairCells_at : ∀ (l : List Int) (k : Nat) (j : Nat), j < 2 → k < l.length → (pairCells l)[k * 2 + j]? = some (.int .i64 (l.getD k 0))
  | [], k, j, _, h => by simp at h
  | x :: r, 0, j, hj, _ => by
    unfold pairCells
    match j, hj with
    | 0, _ => rfl
    | 1, _ => rfl
  | x :: r, k + 1, j, hj, h => by
    have ih := pairCells_at r k j hj (by simpa using h)
    unfold pairCells at ih ⊢
    simp only [List.map_cons, List.flatten_cons]
    rw [List.getElem?_append_right (by simp; omega)]
    rw [show (k + 1) * 2 + j - [Value.int .i64 x, Value.int .i64 x].length = k * 2 + j by simp; omega]
    rw [ih]
    simp

theorem err_60 (w : World) : Calls Tryd.prog 25 #[.int .i64 60] w fun e w' => e = .returned (.string { data := #[101, 114, 114, 111, 114, 32, 54, 48] }) ∧ w = w' := by
  have h : ∀ W, Calls Tryd.prog 39 #[.int .i64 60] W fun e w' => e = .returned (.string { data := #[54, 48] }) ∧ W = w' := fun W => (Tryd.strconv_Itoa_small 60 (by decide) W).mono fun e w' ⟨he, hw⟩ => ⟨he.trans (by rw [show Lib.decDigits 60 = [54, 48] by decide +kernel]), hw.symm⟩
  go_enter Tryd.func25, Tryd.ntmps25
  go_wp2_with (go_at_call 39; refine (h _).mono ?_; rintro e w' ⟨rfl, rfl⟩)
  go_ret
  exact ⟨rfl, rfl⟩

theorem err_0 (w : World) : Calls Tryd.prog 25 #[.int .i64 0] w fun e w' => e = .returned (.string { data := #[101, 114, 114, 111, 114, 32, 48] }) ∧ w = w' := by
  have h : ∀ W, Calls Tryd.prog 39 #[.int .i64 0] W fun e w' => e = .returned (.string { data := #[48] }) ∧ W = w' := fun W => (Tryd.strconv_Itoa_small 0 (by decide) W).mono fun e w' ⟨he, hw⟩ => ⟨he.trans (by rw [show Lib.decDigits 0 = [48] by decide +kernel]), hw.symm⟩
  go_enter Tryd.func25, Tryd.ntmps25
  go_wp2_with (go_at_call 39; refine (h _).mono ?_; rintro e w' ⟨rfl, rfl⟩)
  go_ret
  exact ⟨rfl, rfl⟩


set_option maxRecDepth 100000 in
theorem walk_NamesNumbers (w : World) : Calls Tryd.prog 8 #[] w fun e w' => e = .returned (.bool true) ∧ Below w.heap.size w w' := by
  have hl : (pairCells numsL).length = 218 := by rw [pairCells_length]; rfl
  have hc : ∀ k : Nat, k < 109 → ∀ j, j < 2 → (w.alloc (.cells (pairCells numsL).toArray 45)).cell? ⟨w.heap.size, k * 2 + j, none⟩ = some (.int .i64 (numsL.getD k 0)) := by
    intro k hk j hj
    have := pairCells_at numsL k j hj hk
    simp [go_sem, this]
  have hb := (Below.refl w.heap.size w).alloc (Nat.le_refl _) (.cells (pairCells numsL).toArray 45)
  go_enter Tryd.func8, Tryd.ntmps8
  go_wp2_with (go_at_call 24; refine (all_any _).mono ?_; rintro e w1 ⟨rfl, hw⟩; rw [← hw] at hc hb; clear hw)
  have h60 := fun W => err_60 W
  have h0 := fun W => err_0 W
  go_loopw [2] (fun i wr => ∃ k n : Nat, k ≤ 109 ∧ i = .int .i64 k ∧ wr = w1.drewN n) (fun i _ => 109 - (intOf i).toNat)
  case atStart => exact ⟨0, 0, by omega, rfl, rfl⟩
  case round =>
    obtain ⟨k, n, hk, rfl, rfl⟩ := hrel
    by_cases hlt : k < 109
    · have c0 := hc k hlt 0 (by omega)
      have c1 := hc k hlt 1 (by omega)
      rw [Nat.add_zero] at c0
      generalize numsL.getD k 0 = v at *
      clear hc
      go_wp2_with fail
      go_quiet (fail)
      go_wp2
      go_roundw
      case rel => exact ⟨k + 1, _, by omega, by go_num, rfl⟩
      case measure => simp [intOf]; omega
    · have hkk : k = 109 := by omega
      subst hkk
      clear hc
      go_wp2_with (first | (go_at_call 25; (with_reducible refine (h60 _).mono ?_); rintro e w' ⟨rfl, rfl⟩) | (go_at_call 25; (with_reducible refine (h0 _).mono ?_); rintro e w' ⟨rfl, rfl⟩))
      go_ret
      exact ⟨rfl, hb.trans ⟨rfl, rfl, rfl, Nat.le_refl _, fun _ _ => rfl⟩⟩
end Go.Proofs.YtcokkmjfdnigpaaDoor
