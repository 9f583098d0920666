
/- Texts of numbers with blanks about them and noughts ahead, without any program: what is left when the blanks are gone, and the number that it tells. -/
import Derived.Test.YtbghbfgbpdppeaaGreatDoorCastD
namespace Go.Proofs.YtbghbfgbpdppeaaGreatDoor
open Go.RowKit Go.Lib

abbrev zs (k : Nat) : List UInt8 := List.replicate k 48
abbrev bks (k : Nat) : List UInt8 := List.replicate k 32
/-- a number's text with noughts ahead -/
def core (n : Int) (k : Nat) : List UInt8 := if n < 0 then 45 :: (zs k ++ decDigits n.natAbs) else zs k ++ decDigits n.toNat

theorem nv_zs (l : List UInt8) : ∀ k, nv 0 (zs k ++ l) = nv 0 l
  | 0 => rfl
  | k + 1 => by
    rw [zs, List.replicate_succ, List.cons_append, nv_cons]
    exact nv_zs l k
theorem zs_dg (k : Nat) : (zs k).all isDg = true := by
  rw [List.all_eq_true]
  intro x hx
  have := (List.mem_replicate.1 hx).2
  subst this
  decide +kernel
theorem core_num (n : Int) (k : Nat) : numOk (core n k) = true ∧ numX (core n k) = n := by
  unfold core
  by_cases h : n < 0
  · rw [if_pos h]
    obtain ⟨h1, h2, h3⟩ := dec_all n.natAbs
    obtain ⟨g1, g2⟩ := num_neg (l := zs k ++ decDigits n.natAbs) (by simp [h3]) (by rw [List.all_append, zs_dg, h1]; rfl)
    exact ⟨g1, by rw [g2, nv_zs, h2]; omega⟩
  · rw [if_neg h]
    obtain ⟨h1, h2, h3⟩ := dec_all n.toNat
    obtain ⟨g1, g2⟩ := num_digits (l := zs k ++ decDigits n.toNat) (by simp [h3]) (by rw [List.all_append, zs_dg, h1]; rfl)
    exact ⟨g1, by rw [g2, nv_zs, h2]; omega⟩
theorem dg_ne {x : UInt8} (h : isDg x = true) : x ≠ 32 ∧ x ≠ 120 := by
  simp only [isDg, decide_eq_true_eq] at h
  constructor <;> (rintro rfl; revert h; decide +kernel)
theorem core_mem (n : Int) (k : Nat) : ∀ x ∈ core n k, x ≠ 32 := by
  intro x hx
  unfold core at hx
  have hz : ∀ y ∈ zs k, y ≠ 32 := fun y hy => by rw [(List.mem_replicate.1 hy).2]; decide
  have hd : ∀ u, ∀ y ∈ decDigits u, y ≠ 32 := fun u y hy => (dg_ne (List.all_eq_true.1 (dec_all u).1 y hy)).1
  split at hx
  · rw [List.mem_cons, List.mem_append] at hx
    rcases hx with rfl | h | h
    · decide
    · exact hz x h
    · exact hd _ x h
  · rw [List.mem_append] at hx
    rcases hx with h | h
    · exact hz x h
    · exact hd _ x h
theorem core_ne (n : Int) (k : Nat) : core n k ≠ [] := by
  unfold core
  split
  · simp
  · simp [(dec_all n.toNat).2.2]
theorem head_app {a b : List UInt8} (h : a ≠ []) : (a ++ b).head? = a.head? := by
  cases a with
  | nil => exact absurd rfl h
  | cons c r => rfl
theorem cont32 (x : UInt8) : ([32] : List UInt8).contains x = (x == 32) := contains_one 32 x
theorem dropW_pre : ∀ (a : Nat) (m : List UInt8), m.head? ≠ some 32 → (bks a ++ m).dropWhile (([32] : List UInt8).contains ·) = m
  | 0, [], _ => rfl
  | 0, c :: r, h => by
    show (c :: r).dropWhile _ = _
    rw [List.dropWhile_cons, if_neg]
    rw [cont32, beq_iff_eq]
    intro e
    exact h (by rw [e]; rfl)
  | a + 1, m, h => by
    rw [bks, List.replicate_succ, List.cons_append, List.dropWhile_cons, if_pos (by decide)]
    exact dropW_pre a m h
theorem trim_mid (a b : Nat) (m : List UInt8) (h1 : m.head? ≠ some 32) (h2 : m.getLast? ≠ some 32) : trimB (bks a ++ m ++ bks b) = m := by
  unfold trimB trimS trimRightS trimLeftS
  rw [List.reverse_append, show (bks b).reverse = bks b from List.reverse_replicate, List.reverse_append, show (bks a).reverse = bks a from List.reverse_replicate]
  by_cases hm : m = []
  · subst hm
    have e : ∀ k, (bks k).dropWhile (([32] : List UInt8).contains ·) = [] := fun k => by
      have := dropW_pre k [] (by simp)
      rwa [List.append_nil] at this
    have e2 : (bks b ++ ([].reverse ++ bks a)) = bks (b + a) := by simp [bks, List.replicate_append_replicate]
    rw [e2, e]
    rfl
  · have e1 : (bks b ++ (m.reverse ++ bks a)).dropWhile (([32] : List UInt8).contains ·) = m.reverse ++ bks a := by
      refine dropW_pre b _ ?_
      rw [head_app (by simpa using hm), List.head?_reverse]
      exact h2
    rw [e1, List.reverse_append, List.reverse_reverse, show (bks a).reverse = bks a from List.reverse_replicate]
    exact dropW_pre a m h1
theorem trim_core (n : Int) (a b k : Nat) : trimB (bks a ++ core n k ++ bks b) = core n k := by
  refine trim_mid a b _ ?_ ?_
  · intro h
    exact core_mem n k 32 (List.mem_of_mem_head? (by simpa using h)) rfl
  · intro h
    exact core_mem n k 32 (List.mem_of_mem_getLast? (by simpa using h)) rfl
theorem trim_x (n : Int) (a b k : Nat) : trimB (bks a ++ core n k ++ bks b ++ [120]) = core n k ++ bks b ++ [120] := by
  have e : bks a ++ core n k ++ bks b ++ [120] = bks a ++ (core n k ++ bks b ++ [120]) ++ bks 0 := by simp
  rw [e]
  refine trim_mid a 0 _ ?_ (by simp)
  rw [List.append_assoc, head_app (core_ne n k)]
  intro h
  exact core_mem n k 32 (List.mem_of_mem_head? (by simpa using h)) rfl
theorem num_x (l : List UInt8) : numE (l ++ [120]) = 3 := by
  have h : numOk (l ++ [120]) = false := by
    have hd : (restB (l ++ [120])).all isDg = false := by
      have hm : (120 : UInt8) ∈ restB (l ++ [120]) := by
        unfold restB
        split
        · rename_i hn
          cases l with
          | nil => revert hn; decide +kernel
          | cons c r => simp
        · simp
      rw [Bool.eq_false_iff]
      intro hh
      have := List.all_eq_true.1 hh 120 hm
      revert this
      decide +kernel
    unfold numOk
    rw [hd, Bool.and_false]
  unfold numE
  rw [h]
  rfl
end Go.Proofs.YtbghbfgbpdppeaaGreatDoor
