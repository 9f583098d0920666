
/- Weights in a word as a text, without any program: digits to sixteen, their reading, the text of a word, how it is taken apart. No condition beyond what each theorem states. -/
import Derived.Lib.SplitLaws
import Derived.Lib.SlTrimSet
import Derived.Lib.ParseIntB
import Derived.Lib.Strings
namespace Go.Proofs.YtbghbfgbpdppeaaDoor
open Go.Lib

def hxd (n : Nat) : UInt8 := UInt8.ofNat (if n < 10 then 48 + n else 87 + n)
def hxL (n : Nat) : List UInt8 := if _h : n < 16 then [hxd n] else hxL (n / 16) ++ [hxd (n % 16)]
termination_by n
decreasing_by omega
def hxn : Nat → Nat → List UInt8
  | 0, _ => []
  | k + 1, n => hxn k (n / 16) ++ [hxd (n % 16)]
theorem hxn_len : ∀ k n, (hxn k n).length = k
  | 0, _ => rfl
  | k + 1, n => by rw [hxn, List.length_append, hxn_len k]; rfl
theorem hxn_zero : ∀ k, hxn k 0 = List.replicate k 48
  | 0 => rfl
  | k + 1 => by
    have e : hxd (0 % 16) = 48 := by decide +kernel
    rw [hxn, Nat.zero_div, hxn_zero k, e, List.replicate_succ']
theorem hxL_small {n : Nat} (h : n < 16) : hxL n = [hxd n] := by rw [hxL, dif_pos h]
theorem hxL_step {n : Nat} (h : ¬ n < 16) : hxL n = hxL (n / 16) ++ [hxd (n % 16)] := by rw [hxL, dif_neg h]
/-- the numeral, with noughts ahead, is the row of so many digits -/
theorem hxL_pad : ∀ (k n : Nat), n < 16 ^ (k + 1) → (hxL n).length ≤ k + 1 ∧ List.replicate (k + 1 - (hxL n).length) 48 ++ hxL n = hxn (k + 1) n
  | 0, n, h => by
    have h' : n < 16 := by simpa using h
    rw [hxL_small h']
    refine ⟨by simp, ?_⟩
    simp [hxn, Nat.mod_eq_of_lt h']
  | k + 1, n, h => by
    by_cases h' : n < 16
    · rw [hxL_small h']
      refine ⟨by simp, ?_⟩
      rw [hxn, Nat.div_eq_of_lt h', Nat.mod_eq_of_lt h', hxn_zero]
      simp
    · have h2 : n / 16 < 16 ^ (k + 1) := by
        rw [Nat.div_lt_iff_lt_mul (by decide)]
        rw [Nat.pow_succ] at h
        exact h
      obtain ⟨i1, i2⟩ := hxL_pad k (n / 16) h2
      rw [hxL_step h', List.length_append, List.length_singleton]
      refine ⟨by omega, ?_⟩
      rw [hxn, ← i2, ← List.append_assoc]
      congr 2
      congr 1
      omega
/-- the row of digits, the first one ahead -/
theorem hxn_head : ∀ (k n : Nat), hxn (k + 1) n = hxd (n / 16 ^ k % 16) :: hxn k n
  | 0, n => by simp [hxn]
  | k + 1, n => by
    rw [hxn, hxn_head k (n / 16), Nat.div_div_eq_div_mul, ← Nat.pow_succ']
    conv => rhs; rw [hxn]
    rw [List.cons_append]

def hval (c : UInt8) : Option Nat := if 48 ≤ c.toNat ∧ c.toNat ≤ 57 then some (c.toNat - 48) else if 97 ≤ (c ||| 32).toNat ∧ (c ||| 32).toNat ≤ 102 then some ((c ||| 32).toNat - 87) else none
def hpar : Nat → List UInt8 → NumEnd Nat
  | acc, [] => .ok acc
  | acc, c :: r => match hval c with
    | none => NumEnd.syntax
    | some d => if 65535 < acc * 16 + d then .range else hpar (acc * 16 + d) r
theorem hval_lt {c : UInt8} {d : Nat} (h : hval c = some d) : d < 16 := by
  unfold hval at h
  split at h
  · injection h with h; omega
  · split at h
    · injection h with h; omega
    · cases h
theorem hpar_le : ∀ (l : List UInt8) (acc m : Nat), acc ≤ 65535 → hpar acc l = .ok m → m ≤ 65535
  | [], acc, m, ha, h => by
    simp only [hpar] at h
    injection h with h
    omega
  | c :: r, acc, m, ha, h => by
    unfold hpar at h
    cases hd : hval c with
    | none => rw [hd] at h; cases h
    | some d =>
      rw [hd] at h
      simp only at h
      split at h
      · cases h
      · exact hpar_le r _ m (by omega) h
theorem hpar_snoc : ∀ (l : List UInt8) (c : UInt8) (acc m d : Nat), hpar acc l = .ok m → hval c = some d → m * 16 + d ≤ 65535 → hpar acc (l ++ [c]) = .ok (m * 16 + d)
  | [], c, acc, m, d, h, hc, hm => by
    simp only [hpar] at h
    injection h with h
    subst h
    simp only [List.nil_append, hpar, hc]
    rw [if_neg (by omega)]
  | x :: r, c, acc, m, d, h, hc, hm => by
    rw [List.cons_append]
    unfold hpar at h ⊢
    cases hd : hval x with
    | none => rw [hd] at h; cases h
    | some e =>
      rw [hd] at h
      simp only at h ⊢
      split at h
      · cases h
      · rename_i hh
        rw [if_neg hh]
        exact hpar_snoc r c _ m d h hc hm
theorem hval_hxd {d : Nat} (h : d < 16) : hval (hxd d) = some d := by
  have : ∀ k : Fin 16, hval (hxd k) = some k.val := by decide +kernel
  exact this ⟨d, h⟩
theorem hpar_hxn : ∀ (k n : Nat), n < 16 ^ k → n ≤ 65535 → hpar 0 (hxn k n) = .ok n
  | 0, n, h, _ => by
    have : n = 0 := by simpa using h
    subst this
    rfl
  | k + 1, n, h, hn => by
    have h2 : n / 16 < 16 ^ k := by
      rw [Nat.div_lt_iff_lt_mul (by decide)]
      rw [Nat.pow_succ] at h
      exact h
    have ih := hpar_hxn k (n / 16) h2 (by omega)
    have := hpar_snoc _ (hxd (n % 16)) 0 _ _ ih (hval_hxd (Nat.mod_lt n (by decide))) (by omega)
    rw [hxn, this]
    congr 1
    omega

/-- the text of a word -/
def wP (w : Nat) : Nat := w / 65536
def wS (w : Nat) : Nat := w / 256 % 256
def wT (w : Nat) : Nat := w / 2 % 128
def wV (w : Nat) : Bool := decide (w % 2 = 1)
def midT (w : Nat) : List UInt8 := hxn 4 (wP w) ++ 46 :: (hxn 2 (wS w) ++ 46 :: hxn 2 (wT w))
def aheadT (w : Nat) : List UInt8 := if wV w then [91, 42] else [91]
def txt (w : Nat) : List UInt8 := aheadT w ++ midT w ++ [93]
abbrev cutT : List UInt8 := [91, 42, 93]

theorem hxd_out {d : Nat} (h : d < 16) : cutT.contains (hxd d) = false ∧ hxd d ≠ 46 := by
  have : ∀ k : Fin 16, cutT.contains (hxd k) = false ∧ hxd k ≠ 46 := by decide +kernel
  exact this ⟨d, h⟩
theorem hxn_mem : ∀ (k n : Nat) (x : UInt8), x ∈ hxn k n → cutT.contains x = false ∧ x ≠ 46
  | 0, _, x, h => by simp [hxn] at h
  | k + 1, n, x, h => by
    rw [hxn, List.mem_append] at h
    rcases h with h | h
    · exact hxn_mem k _ x h
    · rw [List.mem_singleton] at h
      subst h
      exact hxd_out (Nat.mod_lt n (by decide))
theorem mid_out (w : Nat) : ∀ x ∈ midT w, cutT.contains x = false := by
  intro x hx
  unfold midT at hx
  simp only [List.mem_append, List.mem_cons] at hx
  have h46 : cutT.contains (46 : UInt8) = false := by decide +kernel
  rcases hx with h | h | h | h | h
  · exact (hxn_mem _ _ x h).1
  · rw [h]; exact h46
  · exact (hxn_mem _ _ x h).1
  · rw [h]; exact h46
  · exact (hxn_mem _ _ x h).1
theorem mid_ne (w : Nat) : midT w ≠ [] := by unfold midT; simp
theorem dropW_app {p : UInt8 → Bool} : ∀ {a m : List UInt8}, (∀ x ∈ a, p x = true) → (∀ x ∈ m, p x = false) → (a ++ m).dropWhile p = m
  | [], [], _, _ => rfl
  | [], c :: r, _, h => by rw [List.nil_append, List.dropWhile_cons, if_neg (by rw [h c (by simp)]; simp)]
  | x :: a, m, ha, hm => by
    rw [List.cons_append, List.dropWhile_cons, if_pos (ha x (by simp))]
    exact dropW_app (fun y hy => ha y (by simp [hy])) hm
theorem dropW_app2 {p : UInt8 → Bool} : ∀ {a m t : List UInt8}, (∀ x ∈ a, p x = true) → (∀ x ∈ m, p x = false) → m ≠ [] → (a ++ (m ++ t)).dropWhile p = m ++ t
  | [], [], _, _, _, h => absurd rfl h
  | [], c :: r, t, _, h, _ => by rw [List.nil_append, List.cons_append, List.dropWhile_cons, if_neg (by rw [h c (by simp)]; simp)]
  | x :: a, m, t, ha, hm, hne => by
    rw [List.cons_append, List.dropWhile_cons, if_pos (ha x (by simp))]
    exact dropW_app2 (fun y hy => ha y (by simp [hy])) hm hne
theorem trim_txt (w : Nat) : trimS (txt w) cutT = midT w := by
  have ha : ∀ x ∈ aheadT w, cutT.contains x = true := by
    intro x hx
    unfold aheadT at hx
    split at hx <;> simp at hx
    · rcases hx with rfl | rfl <;> decide +kernel
    · subst hx; decide +kernel
  have hr : trimRightS (txt w) cutT = aheadT w ++ midT w := by
    unfold trimRightS txt
    rw [List.reverse_append, List.reverse_append]
    rw [dropW_app2 (fun x hx => by simp at hx; subst hx; decide +kernel) (fun x hx => mid_out w x (by simpa using hx)) (by simpa using mid_ne w)]
    rw [List.reverse_append, List.reverse_reverse, List.reverse_reverse]
  unfold trimS
  rw [hr]
  unfold trimLeftS
  exact dropW_app ha (mid_out w)
theorem prefix_txt (w : Nat) : hasPrefix (txt w) [91, 42] = wV w := by
  unfold hasPrefix txt aheadT
  cases hv : wV w
  · have e : midT w = hxd (wP w / 16 ^ 3 % 16) :: (hxn 3 (wP w) ++ 46 :: (hxn 2 (wS w) ++ 46 :: hxn 2 (wT w))) := by
      unfold midT
      rw [hxn_head 3]
      rfl
    rw [e]
    have hd := (hxd_out (d := wP w / 16 ^ 3 % 16) (Nat.mod_lt _ (by decide))).1
    generalize hxd (wP w / 16 ^ 3 % 16) = c at *
    have hc : (42 == c) = false := by
      rw [beq_eq_false_iff_ne]
      rintro rfl
      revert hd
      decide +kernel
    simp [List.isPrefixOf, hc]
  · simp [List.isPrefixOf]
theorem idx_app (c : UInt8) : ∀ (a t : List UInt8), c ∉ a → indexByte (a ++ c :: t) c = a.length
  | [], t, _ => by simp [indexByte]
  | b :: a, t, h => by
    have hb : (b == c) = false := by
      rw [beq_eq_false_iff_ne]
      rintro rfl
      exact h (by simp)
    have ih := idx_app c a t (fun hh => h (by simp [hh]))
    rw [List.cons_append, indexByte, hb, ih]
    simp only [Bool.false_eq_true, if_false]
    rw [if_neg (by rw [beq_iff_eq]; omega)]
    simp
theorem split3 (a b c : List UInt8) (ha : (46 : UInt8) ∉ a) (hb : (46 : UInt8) ∉ b) : splitK [46] 0 2 (a ++ 46 :: (b ++ 46 :: c)) = [a, b, c] := by
  have e1 := idx_app 46 a (b ++ 46 :: c) ha
  have e2 := idx_app 46 b c hb
  rw [splitK, index_one, e1, if_neg (by rw [beq_iff_eq]; omega)]
  have d1 : (a ++ 46 :: (b ++ 46 :: c)).drop ((a.length : Int).toNat + [46].length) = b ++ 46 :: c := by
    simp
  rw [show ((a.length : Int).toNat + ([46] : List UInt8).length) = ((a.length : Int).toNat + [46].length) from rfl, d1]
  rw [splitK, index_one, e2, if_neg (by rw [beq_iff_eq]; omega), splitK]
  simp
theorem mid_count (w : Nat) : (midT w).count 46 = 2 := by
  have h : ∀ k n, (hxn k n).count 46 = 0 := fun k n => List.count_eq_zero.2 fun hh => (hxn_mem k n 46 hh).2 rfl
  unfold midT
  simp [List.count_append, h]
theorem mid_split (w : Nat) : splitK [46] 0 2 (midT w) = [hxn 4 (wP w), hxn 2 (wS w), hxn 2 (wT w)] :=
  split3 _ _ _ (fun h => (hxn_mem _ _ 46 h).2 rfl) (fun h => (hxn_mem _ _ 46 h).2 rfl)
theorem txt_len (w : Nat) : (txt w).length ≤ 13 := by
  have : (aheadT w).length ≤ 2 := by unfold aheadT; split <;> simp
  unfold txt midT
  simp only [List.length_append, List.length_cons, hxn_len, List.length_nil]
  omega
end Go.Proofs.YtbghbfgbpdppeaaDoor
