
/- Rules read from a list of signs, in plain Lean: what is left grows shorter. No condition beyond what each theorem states. -/
import Derived.Test.YtmpnblibbcocpaaDoorRulesM
namespace Go.Proofs.YtmpnblibbcocpaaDoor
open Go.Lib

theorem blankP_len (M : List Nat) : (blankP M).length ≤ M.length := (List.dropWhile_sublist blk).length_le
theorem blankP_idem : ∀ M : List Nat, blankP (blankP M) = blankP M
  | [] => rfl
  | c :: r => by
    by_cases h : blk c = true
    · have e : blankP (c :: r) = blankP r := by unfold blankP; rw [List.dropWhile_cons, if_pos h]
      rw [e]
      exact blankP_idem r
    · have e : blankP (c :: r) = c :: r := by unfold blankP; rw [List.dropWhile_cons, if_neg h]
      rw [e, e]
theorem seqP_len : ∀ (n : Nat) (M acc : List Nat), M.length ≤ n → (seqP M acc).1.length ≤ M.length
  | _, [], acc, _ => by rw [seqP_nil]; exact Nat.le_refl _
  | 0, _ :: _, _, h => by simp at h
  | n + 1, c :: r, acc, h => by
    have h' : r.length ≤ n := by simpa using h
    by_cases h1 : spc c = true
    · rw [seqP_spc h1]; exact Nat.le_refl _
    · have h1 : spc c = false := by simpa using h1
      by_cases h2 : acc.length = 3
      · rw [seqP_long h1 h2]; exact Nat.le_refl _
      · by_cases h3 : c = 92
        · subst h3
          rcases r with _ | ⟨d, r⟩
          · rw [seqP_end h2]; simp
          · rw [seqP_back h2]
            have := seqP_len n r (acc ++ [d]) (by simp at h'; omega)
            simp only [List.length_cons]
            omega
        · rw [seqP_sign h1 h2 h3]
          have := seqP_len n r (acc ++ [c]) h'
          simp only [List.length_cons]
          omega
theorem relP_len (M : List Nat) (h : (relP M).1 ≠ 0) : (relP M).2.length < M.length := by
  unfold relP at *
  repeat' split at *
  all_goals simp_all
  all_goals omega
theorem ruleP_len {first : Bool} {M M' : List Nat} {x : Rl} (h : ruleP first M = (M', some x)) : M'.length < M.length := by
  unfold ruleP at h
  split at h
  · cases h
  rename_i hz
  have h0 : (relP M).1 ≠ 0 := fun hh => hz (.inl hh)
  have h1 := relP_len M h0
  have h2 := blankP_len (relP M).2
  split at h
  · cases h
  rename_i M2 q hq
  have h3 := seqP_len _ (blankP (relP M).2) [] (Nat.le_refl _)
  rw [hq] at h3
  simp only at h3
  have h4 := blankP_len M2
  split at h
  · simp only [Prod.mk.injEq] at h
    rw [← h.1]
    omega
  split at h
  · simp only [Prod.mk.injEq] at h
    rw [← h.1]
    simp
    omega
  rename_i c M3 hM3
  rw [hM3] at h4
  simp only [List.length_cons] at h4
  split at h
  · have h5 := blankP_len M3
    split at h
    · cases h
    rename_i M4 y hy
    have h6 := seqP_len _ (blankP M3) [] (Nat.le_refl _)
    rw [hy] at h6
    simp only at h6
    have h7 := blankP_len M4
    simp only [Prod.mk.injEq] at h
    rw [← h.1]
    omega
  · simp only [Prod.mk.injEq] at h
    rw [← h.1]
    simp only [List.length_cons]
    omega
theorem parseP_nil (k : Nat) (acc : List Rl) : parseP k acc [] = if 40 < acc.length then .many else .ok acc := by
  cases k <;> rfl
theorem parseP_none {k : Nat} {acc : List Rl} {M M' : List Nat} (hM : M ≠ []) (h : ruleP acc.isEmpty M = (M', none)) : parseP (k + 1) acc M = .wrong M' := by
  cases M with
  | nil => exact absurd rfl hM
  | cons c r => rw [parseP, h]; intro hh; cases hh
theorem parseP_some {k : Nat} {acc : List Rl} {M M' : List Nat} {x : Rl} (hM : M ≠ []) (h : ruleP acc.isEmpty M = (M', some x)) : parseP (k + 1) acc M = parseP k (acc ++ [x]) M' := by
  cases M with
  | nil => exact absurd rfl hM
  | cons c r => rw [parseP, h]; intro hh; cases hh
end Go.Proofs.YtmpnblibbcocpaaDoor
