
/- Rules read from a list of signs, in plain Lean: blanks, a sequence, a relation, a rule, all rules; what is left behind each, and where that stands in bytes. No condition beyond what each theorem states. -/
import Derived.Test.YtmpnblibbcocpaaDoorTextN
namespace Go.Proofs.YtmpnblibbcocpaaDoor
open Go.Lib

structure Rl where
  rel : Nat
  seq : List Nat
  exp : List Nat

/-- a sign that ends a sequence -/
def spc (c : Nat) : Bool := c == 32 || c == 10 || c == 38 || c == 60 || c == 61 || c == 47
def blk (c : Nat) : Bool := c == 32 || c == 10
/-- behind blanks -/
def blankP (M : List Nat) : List Nat := M.dropWhile blk
def finP (acc : List Nat) : Option (List Nat) := if acc = [] then none else some acc
/-- behind a sequence, and what it is -/
def seqP : List Nat → List Nat → List Nat × Option (List Nat)
  | [], acc => ([], finP acc)
  | c :: r, acc =>
    if spc c then (c :: r, finP acc)
    else if acc.length = 3 then (c :: r, none)
    else if c = 92 then
      match r with
      | [] => ([], none)
      | d :: r' => seqP r' (acc ++ [d])
    else seqP r (acc ++ [c])
theorem seqP_nil (acc : List Nat) : seqP [] acc = ([], finP acc) := by rw [seqP]
theorem seqP_spc {c : Nat} {r acc : List Nat} (h : spc c = true) : seqP (c :: r) acc = (c :: r, finP acc) := by
  cases r <;> simp [seqP, h]
theorem seqP_long {c : Nat} {r acc : List Nat} (h : spc c = false) (h2 : acc.length = 3) : seqP (c :: r) acc = (c :: r, none) := by
  cases r <;> simp [seqP, h, h2]
theorem seqP_end {acc : List Nat} (h2 : acc.length ≠ 3) : seqP [92] acc = ([], none) := by
  have h : spc 92 = false := by decide
  simp [seqP, h, h2]
theorem seqP_back {d : Nat} {r acc : List Nat} (h2 : acc.length ≠ 3) : seqP (92 :: d :: r) acc = seqP r (acc ++ [d]) := by
  have h : spc 92 = false := by decide
  simp [seqP, h, h2]
theorem seqP_sign {c : Nat} {r acc : List Nat} (h : spc c = false) (h2 : acc.length ≠ 3) (h3 : c ≠ 92) : seqP (c :: r) acc = seqP r (acc ++ [c]) := by
  cases r <;> simp [seqP, h, h2, h3]

/-- a relation, and what is behind it -/
def relP : List Nat → Nat × List Nat
  | [] => (0, [])
  | c :: r => if c = 38 then (1, r) else if c = 61 then (5, r) else if c = 60 then
      match r with
      | [] => (2, [])
      | d :: r2 => if d = 60 then
          match r2 with
          | [] => (3, [])
          | e :: r3 => if e = 60 then (4, r3) else (3, e :: r3)
        else (2, d :: r2)
    else (0, c :: r)
/-- behind a rule and the blanks behind it, and what it is -/
def ruleP (first : Bool) (M : List Nat) : List Nat × Option Rl :=
  if (relP M).1 = 0 ∨ (first = true ∧ (relP M).1 ≠ 1) then (M, none)
  else match seqP (blankP (relP M).2) [] with
    | (M2, none) => (M2, none)
    | (M2, some q) =>
      if (relP M).1 = 1 then (blankP M2, some ⟨1, q, []⟩)
      else match blankP M2 with
        | [] => ([], some ⟨(relP M).1, q, []⟩)
        | c :: M3 => if c = 47 then
            match seqP (blankP M3) [] with
            | (M4, none) => (M4, none)
            | (M4, some x) => (blankP M4, some ⟨(relP M).1, q, x⟩)
          else (c :: M3, some ⟨(relP M).1, q, []⟩)
/-- what all rules are: or where none goes on -/
inductive RulesEnd where
  | ok (l : List Rl)
  | many
  | wrong (rest : List Nat)
def parseP : Nat → List Rl → List Nat → RulesEnd
  | _, acc, [] => if 40 < acc.length then .many else .ok acc
  | 0, _, M => .wrong M
  | k + 1, acc, M => match ruleP acc.isEmpty M with
    | (M', none) => .wrong M'
    | (M', some x) => parseP k (acc ++ [x]) M'
end Go.Proofs.YtmpnblibbcocpaaDoor
