
/- Numbers as texts, without any program: a text of digits, with a sign or without, the number that it tells; what the library's reading and trimming say of it; the numeral of a number is read as that number. No condition beyond what each theorem states. -/
import Derived.Test.YtbghbfgbpdppeaaGreatDoorIntsM
import Derived.Lib.ParseIntBTie
import Derived.Lib.SlTrimSet
import Derived.Lib.ItoaMem
import Derived.Lib.ItoaLen
namespace Go.Proofs.YtbghbfgbpdppeaaGreatDoor
open Go.RowKit Go.Lib

def isDg (b : UInt8) : Bool := decide (48 ≤ b.toNat ∧ b.toNat ≤ 57)
def nvs (a : Nat) (c : UInt8) : Nat := a * 10 + (c.toNat - 48)
def nv (acc : Nat) (l : List UInt8) : Nat := l.foldl nvs acc
def negB (l : List UInt8) : Bool := [45].isPrefixOf l
def restB (l : List UInt8) : List UInt8 := if negB l then l.drop 1 else l
def numOk (l : List UInt8) : Bool := !(restB l).isEmpty && (restB l).all isDg
def numX (l : List UInt8) : Int := if negB l then -(nv 0 (restB l) : Int) else nv 0 (restB l)
def numV (l : List UInt8) : Int := if numOk l then val1 (numX l) else 0
def numE (l : List UInt8) : Int := if numOk l then err1 (numX l) else 3

theorem nv_nil (acc : Nat) : nv acc [] = acc := rfl
theorem nv_cons (acc : Nat) (c : UInt8) (r : List UInt8) : nv acc (c :: r) = nv (acc * 10 + (c.toNat - 48)) r := by unfold nv; rw [List.foldl_cons, nvs]
attribute [irreducible] nv
theorem nv_ge (l : List UInt8) : ∀ acc : Nat, acc ≤ nv acc l := by
  induction l with
  | nil => intro acc; rw [nv_nil]; exact Nat.le_refl _
  | cons c r ih =>
    intro acc
    rw [nv_cons]
    exact Nat.le_trans (by omega) (ih _)
theorem nv_append (a b : List UInt8) : ∀ acc : Nat, nv acc (a ++ b) = nv (nv acc a) b := by
  induction a with
  | nil => intro acc; rw [nv_nil]; rfl
  | cons c r ih =>
    intro acc
    rw [List.cons_append, nv_cons, nv_cons]
    exact ih _
theorem nv_snoc (a : List UInt8) (c : UInt8) (acc : Nat) : nv acc (a ++ [c]) = nv acc a * 10 + (c.toNat - 48) := by rw [nv_append, nv_cons, nv_nil]
theorem nv_take (l : List UInt8) (k : Nat) (acc : Nat) : nv acc (l.take k) ≤ nv acc l := by
  conv => rhs; rw [← List.take_append_drop k l]
  rw [nv_append]
  exact nv_ge _ _
theorem nv_take_step {l : List UInt8} {k : Nat} (h : k < l.length) : nv 0 (l.take (k + 1)) = nv 0 (l.take k) * 10 + ((l.getD k 0).toNat - 48) := by
  rw [List.take_succ_eq_append_getElem h, nv_snoc]
  simp [List.getD, h]

theorem puM (l : List UInt8) : ∀ acc : Nat, l.all isDg = true → acc ≤ 18446744073709551615 →
    parseUintM 18446744073709551615 acc l = if nv acc l ≤ 18446744073709551615 then .ok (nv acc l) else .range := by
  induction l with
  | nil => intro acc _ h; rw [nv_nil, if_pos h]; rfl
  | cons c r ih =>
    intro acc ha h
    simp only [List.all_cons, Bool.and_eq_true] at ha
    obtain ⟨h1, h2⟩ := ha
    simp only [isDg, decide_eq_true_eq] at h1
    have hg := nv_ge r (acc * 10 + (c.toNat - 48))
    rw [nv_cons]
    unfold parseUintM
    rw [if_pos h1]
    by_cases h3 : 1844674407370955162 ≤ acc
    · have hn : ¬ nv (acc * 10 + (c.toNat - 48)) r ≤ 18446744073709551615 := by omega
      rw [if_pos h3, if_neg hn]
    · rw [if_neg h3]
      by_cases h4 : 18446744073709551615 < acc * 10 + (c.toNat - 48)
      · have hn : ¬ nv (acc * 10 + (c.toNat - 48)) r ≤ 18446744073709551615 := by omega
        rw [if_pos h4, if_neg hn]
      · rw [if_neg h4]
        exact ih _ h2 (by omega)

theorem neg_cons (c : UInt8) (r : List UInt8) : negB (c :: r) = (c == 45) := by
  simp only [negB, List.isPrefixOf, Bool.and_true]
  rw [Bool.beq_comm]
theorem pi64 {l : List UInt8} (h : numOk l = true) : parseIntB 64 l = if fits (numX l) then .ok (numX l) else .range := by
  cases l with
  | nil => simp [numOk, restB, negB] at h
  | cons c r =>
    have e63 : 2 ^ (64 - 1) = 9223372036854775808 := by decide
    have e64 : 2 ^ 64 - 1 = 18446744073709551615 := by decide
    by_cases hc : c = 45
    · subst hc
      have hn : negB (45 :: r) = true := by simp [neg_cons]
      simp only [numOk, restB, hn, if_true, List.drop_succ_cons, List.drop_zero, Bool.and_eq_true] at h
      obtain ⟨h1, h2⟩ := h
      have hr : r ≠ [] := by intro e; rw [e] at h1; simp at h1
      rw [parseIntB_minus, parseUintB, if_neg hr, e63, e64, puM r 0 h2 (by omega)]
      have hx : numX (45 :: r) = -(nv 0 r : Int) := by simp [numX, restB, hn]
      rw [hx]
      by_cases g : nv 0 r ≤ 18446744073709551615
      · rw [if_pos g]
        simp only [signedC]
        by_cases g2 : 9223372036854775808 < nv 0 r
        · rw [if_pos g2, if_neg (by rw [fits_iff]; omega)]
        · rw [if_neg g2, if_pos (by rw [fits_iff]; omega)]
      · rw [if_neg g, if_neg (by rw [fits_iff]; omega)]
        rfl
    · have hn : negB (c :: r) = false := by rw [neg_cons]; simp [hc]
      simp only [numOk, restB, hn, Bool.and_eq_true] at h
      obtain ⟨_, h2⟩ := h
      have h2' : (c :: r).all isDg = true := h2
      have hd : isDg c = true := by simp only [List.all_cons, Bool.and_eq_true] at h2'; exact h2'.1
      simp only [isDg, decide_eq_true_eq] at hd
      rw [parseIntB_plain 64 c r (by omega) (by omega), parseUintB, if_neg (by simp), e63, e64, puM (c :: r) 0 h2' (by omega)]
      have hx : numX (c :: r) = (nv 0 (c :: r) : Int) := by simp [numX, restB, hn]
      rw [hx]
      by_cases g : nv 0 (c :: r) ≤ 18446744073709551615
      · rw [if_pos g]
        simp only [signlessC]
        by_cases g2 : 9223372036854775808 ≤ nv 0 (c :: r)
        · rw [if_pos g2, if_neg (by rw [fits_iff]; omega)]
        · rw [if_neg g2, if_pos (by rw [fits_iff]; omega)]
      · rw [if_neg g, if_neg (by rw [fits_iff]; omega)]
        rfl

theorem mem_dropWhile {p : UInt8 → Bool} : ∀ {l : List UInt8} {x : UInt8}, x ∈ l → p x = false → x ∈ l.dropWhile p
  | c :: r, x, h, hp => by
    rw [List.dropWhile_cons]
    by_cases hc : p c = true
    · rw [if_pos hc]
      rcases List.mem_cons.1 h with rfl | h
      · rw [hc] at hp; cases hp
      · exact mem_dropWhile h hp
    · rw [if_neg hc]
      exact h
theorem dropWhile_all {p : UInt8 → Bool} : ∀ {l : List UInt8}, (∀ x ∈ l, p x = true) → l.dropWhile p = []
  | [], _ => rfl
  | c :: r, h => by
    rw [List.dropWhile_cons, if_pos (h c (by simp))]
    exact dropWhile_all fun x hx => h x (by simp [hx])
theorem trim_nil (l cs : List UInt8) : trimS l cs = [] ↔ ∀ x ∈ l, cs.contains x = true := by
  constructor
  · intro h x hx
    cases hp : cs.contains x
    · have h1 : x ∈ trimRightS l cs := by
        unfold trimRightS
        rw [List.mem_reverse]
        exact mem_dropWhile (by simpa using hx) hp
      have h2 : x ∈ trimS l cs := mem_dropWhile h1 hp
      rw [h] at h2
      cases h2
    · rfl
  · intro h
    have h1 : trimRightS l cs = [] := by
      unfold trimRightS
      rw [dropWhile_all (fun x hx => h x (by simpa using hx))]
      rfl
    unfold trimS
    rw [h1]
    rfl
abbrev tenD : List UInt8 := [48, 49, 50, 51, 52, 53, 54, 55, 56, 57]
theorem ten_dg (x : UInt8) : tenD.contains x = isDg x := by
  have : ∀ k : Fin 256, tenD.contains (UInt8.ofNat k) = isDg (UInt8.ofNat k) := by decide +kernel
  have h := this ⟨x.toNat, x.toNat_lt⟩
  simpa using h
theorem trim_dg (l : List UInt8) : (trimS l tenD).isEmpty = l.all isDg := by
  rw [Bool.eq_iff_iff, List.isEmpty_iff, trim_nil, List.all_eq_true]
  constructor
  · intro h x hx; rw [← ten_dg]; exact h x hx
  · intro h x hx; rw [ten_dg]; exact h x hx

theorem dec_unf {u : Nat} (h : ¬ u < 10) : decDigits u = decDigits (u / 10) ++ [UInt8.ofNat (48 + u % 10)] := by
  conv => lhs; rw [decDigits, dif_neg h]
theorem dgN (k : Nat) (h : k < 10) : isDg (UInt8.ofNat (48 + k)) = true ∧ (UInt8.ofNat (48 + k)).toNat = 48 + k := by
  have e : (UInt8.ofNat (48 + k)).toNat = 48 + k := by rw [UInt8.toNat_ofNat_of_lt']; simp [UInt8.size]; omega
  exact ⟨by rw [isDg, e]; simp; omega, e⟩
theorem dec_all (u : Nat) : (decDigits u).all isDg = true ∧ nv 0 (decDigits u) = u ∧ decDigits u ≠ [] := by
  induction u using Nat.strongRecOn with
  | _ u ih =>
    by_cases h : u < 10
    · obtain ⟨d1, d2⟩ := dgN u h
      rw [decDigits_one h]
      exact ⟨by rw [List.all_cons, d1]; rfl, by rw [nv_cons, nv_nil]; omega, by simp⟩
    · obtain ⟨h1, h2, _⟩ := ih (u / 10) (by omega)
      obtain ⟨d1, d2⟩ := dgN (u % 10) (by omega)
      rw [dec_unf h]
      refine ⟨by rw [List.all_append, h1, List.all_cons, d1]; rfl, ?_, by simp⟩
      rw [nv_snoc, h2, d2]
      omega
theorem head_dg {l : List UInt8} (h : l.all isDg = true) : negB l = false := by
  cases l with
  | nil => rfl
  | cons c r =>
    rw [neg_cons]
    simp only [List.all_cons, Bool.and_eq_true] at h
    have := h.1
    simp only [isDg, decide_eq_true_eq] at this
    rw [beq_eq_false_iff_ne]
    rintro rfl
    have e : (45 : UInt8).toNat = 45 := rfl
    omega
theorem num_digits {l : List UInt8} (hne : l ≠ []) (h : l.all isDg = true) : numOk l = true ∧ numX l = (nv 0 l : Int) := by
  have hn := head_dg h
  constructor
  · simp [numOk, restB, hn, h, hne]
  · simp [numX, restB, hn]
theorem num_neg {l : List UInt8} (hne : l ≠ []) (h : l.all isDg = true) : numOk (45 :: l) = true ∧ numX (45 :: l) = -(nv 0 l : Int) := by
  have hn : negB (45 :: l) = true := by simp [neg_cons]
  constructor
  · simp [numOk, restB, hn, h, hne]
  · simp [numX, restB, hn]
theorem num_itoa (x : Int) : numOk (itoa x) = true ∧ numX (itoa x) = x := by
  by_cases h : x < 0
  · obtain ⟨h1, h2, h3⟩ := dec_all x.natAbs
    have e : itoa x = 45 :: decDigits x.natAbs := by simp [itoa, h]
    rw [e]
    obtain ⟨g1, g2⟩ := num_neg h3 h1
    exact ⟨g1, by rw [g2, h2]; omega⟩
  · obtain ⟨h1, h2, h3⟩ := dec_all x.toNat
    have e : itoa x = decDigits x.toNat := by simp [itoa, h]
    rw [e]
    obtain ⟨g1, g2⟩ := num_digits h3 h1
    exact ⟨g1, by rw [g2, h2]; omega⟩
theorem numV_itoa {x : Int} (h : fits x = true) : numV (itoa x) = x := by
  obtain ⟨h1, h2⟩ := num_itoa x
  rw [numV, if_pos h1, h2, val1_yes h]
theorem numE_itoa {x : Int} (h : fits x = true) : numE (itoa x) = 0 := by
  obtain ⟨h1, h2⟩ := num_itoa x
  rw [numE, if_pos h1, h2, err1_yes h]
theorem numV_fits (l : List UInt8) : fits (numV l) = true := by
  unfold numV
  split
  · exact val1_fits _
  · rfl
end Go.Proofs.YtbghbfgbpdppeaaGreatDoor
