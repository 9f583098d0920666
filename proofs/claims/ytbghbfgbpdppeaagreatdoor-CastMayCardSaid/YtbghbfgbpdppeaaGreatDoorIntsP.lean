
/- The document's reading of a text as a number: what it returns for every text up to 1000 bytes. -/
import Derived.Test.YtbghbfgbpdppeaaGreatDoorIntsT
namespace Go.Proofs.YtbghbfgbpdppeaaGreatDoor
open Go.ChangeShapes Go.WideShapes Go.ChangeAt Go.RowKit
set_option linter.unusedVariables false

abbrev bl (s : ByteArray) : List UInt8 := s.data.toList
theorem bl_len (s : ByteArray) : (bl s).length = s.size := by simp [bl]
theorem bl_at {s : ByteArray} {i : Nat} (h : i < s.size) : (bl s).getD i 0 = s[i]'h := by
  have h' : i < s.data.toList.length := by simpa using h
  simp only [bl, List.getD, List.getElem?_eq_getElem h', Option.getD_some]
  rfl
theorem str_nil (t : ByteArray) : t.toList.isEmpty = decide (t.size = 0) := by
  rw [ByteArray.toList_eq, Bool.eq_iff_iff, List.isEmpty_iff, decide_eq_true_eq]
  have h := bl_len t
  constructor
  · intro e
    rw [← h]
    show t.data.toList.length = 0
    rw [e]
    rfl
  · intro e
    exact List.eq_nil_of_length_eq_zero (by rw [← e]; exact h)
/-- a number and its sign -/
def sgd (b : Bool) (n : Nat) : Int := if b then -(n : Int) else n
theorem sgd_fits {b : Bool} {m n : Nat} (h : m ≤ n) (hf : fits (sgd b n) = true) : fits (sgd b m) = true := by
  unfold sgd at *
  rw [fits_iff] at *
  cases b <;> simp at * <;> omega
theorem all_take {l : List UInt8} {k : Nat} (h : k < l.length) : (l.take (k + 1)).all isDg = ((l.take k).all isDg && isDg (l.getD k 0)) := by
  rw [List.take_succ_eq_append_getElem h, List.all_append]
  simp [List.getD, h]
theorem all_no {l : List UInt8} {k : Nat} (h : k < l.length) (hd : isDg (l.getD k 0) = false) : l.all isDg = false := by
  rw [Bool.eq_false_iff]
  intro hh
  rw [List.all_eq_true] at hh
  have := hh (l.getD k 0) (by simp [List.getD, h])
  rw [this] at hd
  cases hd

-- WALKS
theorem num_of {l d : List UInt8} {b : Bool} (h1 : negB l = b) (h2 : restB l = d) : numOk l = (!d.isEmpty && d.all isDg) ∧ numX l = sgd b (nv 0 d) := by
  subst h1 h2
  exact ⟨rfl, by unfold numX sgd; rfl⟩
theorem num_no {l d : List UInt8} {b : Bool} (h1 : negB l = b) (h2 : restB l = d) (h : d.isEmpty = true ∨ d.all isDg = false) : numV l = 0 ∧ numE l = 3 := by
  have e := (num_of h1 h2).1
  have e0 : numOk l = false := by
    rw [e]
    rcases h with h | h <;> simp [h]
  unfold numV numE
  simp [e0]
theorem num_big {l d : List UInt8} {b : Bool} (h1 : negB l = b) (h2 : restB l = d) (h3 : d.isEmpty = false) (h4 : d.all isDg = true) (h : fits (sgd b (nv 0 d)) = false) : numV l = 0 ∧ numE l = 17 := by
  obtain ⟨e, ex⟩ := num_of h1 h2
  have e0 : numOk l = true := by rw [e, h3, h4]; rfl
  unfold numV numE
  rw [if_pos e0, if_pos e0, ex, val1_no h, err1_no h]
  exact ⟨rfl, rfl⟩
theorem num_yes {l d : List UInt8} {b : Bool} (h1 : negB l = b) (h2 : restB l = d) (h3 : d.isEmpty = false) (h4 : d.all isDg = true) (h : fits (sgd b (nv 0 d)) = true) : numV l = sgd b (nv 0 d) ∧ numE l = 0 := by
  obtain ⟨e, ex⟩ := num_of h1 h2
  have e0 : numOk l = true := by rw [e, h3, h4]; rfl
  unfold numV numE
  rw [if_pos e0, if_pos e0, ex, val1_yes h, err1_yes h]
  exact ⟨rfl, rfl⟩
theorem dg_at {l : List UInt8} {k : Nat} (h : k < l.length) (ha : l.all isDg = true) : 48 ≤ (l.getD k 0).toNat ∧ (l.getD k 0).toNat ≤ 57 := by
  rw [List.all_eq_true] at ha
  have := ha (l.getD k 0) (by simp [List.getD, h])
  simpa [isDg] using this

end Go.Proofs.YtbghbfgbpdppeaaGreatDoor
