
/- What the parser makes of the program's own text of a sequence, in plain Lean. Conditions stand at each theorem. -/
import Derived.Test.YtmpnblibbcocpaaDoorRulesW
namespace Go.Proofs.YtmpnblibbcocpaaDoor
open Go.ChangeShapes Go.WideShapes Go.ChangeAt Go.RowKit Go.Lib
set_option linter.unusedVariables false

def escS (c : Nat) : List Nat := if spZ (c : Int) = true then [92, c] else [c]
theorem sgs_one {c : Nat} (h : c < 55296 ∨ (57344 ≤ c ∧ c ≤ 1114111)) (t : List UInt8) : sgs (oneB c ++ t) = c :: sgs t := by
  obtain ⟨x, u, e, _⟩ := one_head h
  rw [sgs_step (by rw [e]; simp), sg_one h]
  simp only [List.drop_left]
theorem seqP_esc {c : Nat} {r acc : List Nat} (h : acc.length < 3) : seqP (escS c ++ r) acc = seqP r (acc ++ [c]) := by
  unfold escS
  have hs := spZ_nat c
  split
  · exact seqP_back (by omega)
  · rename_i hn
    rw [Bool.not_eq_true] at hn
    rw [hn] at hs
    have h2 := hs.symm
    rw [Bool.or_eq_false_iff] at h2
    exact seqP_sign h2.1 (by omega) (by simpa using h2.2)
theorem sgs_one92 {c : Nat} (h : c < 55296 ∨ (57344 ≤ c ∧ c ≤ 1114111)) (t : List UInt8) : sgs (one92 (c : Int) ++ t) = escS c ++ sgs t := by
  have hz : isZ (c : Int) = true := by unfold isZ; simp; omega
  have e : jn [c] = oneB c := by simp [jn]
  unfold one92 escS
  rw [if_pos hz, Int.toNat_natCast, e]
  split
  · have h92 := sgs_one (c := 92) (by omega) (oneB c ++ t)
    rw [show oneB 92 = [92] from by decide] at h92
    rw [List.append_assoc, h92, sgs_one h]
    rfl
  · rw [List.nil_append, sgs_one h]
    rfl
theorem sgs_text {l : List Nat} (h : ∀ c ∈ l, c < 55296 ∨ (57344 ≤ c ∧ c ≤ 1114111)) (t : List UInt8) : sgs (textB (zl l) ++ t) = (l.map escS).flatten ++ sgs t := by
  induction l with
  | nil => rfl
  | cons c l ih =>
    show sgs (one92 (c : Int) ++ textB (zl l) ++ t) = escS c ++ (l.map escS).flatten ++ sgs t
    rw [List.append_assoc, sgs_one92 (h c (by simp)), ih (fun x hx => h x (by simp [hx])), List.append_assoc]
theorem seqP_text : ∀ {l : List Nat} {r acc : List Nat}, acc.length + l.length ≤ 3 → seqP ((l.map escS).flatten ++ r) acc = seqP r (acc ++ l)
  | [], r, acc, _ => by simp
  | c :: l, r, acc, h => by
    rw [List.length_cons] at h
    show seqP (escS c ++ (l.map escS).flatten ++ r) acc = _
    rw [List.append_assoc, seqP_esc (by omega), seqP_text (by simp; omega), List.append_assoc]
    rfl
end Go.Proofs.YtmpnblibbcocpaaDoor
