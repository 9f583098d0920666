
/- The document's word of an element. -/
import Derived.Test.YtbghbfgbpdppeaaDoorElemB
namespace Go.Proofs.YtbghbfgbpdppeaaDoor
open Go.ChangeShapes Go.WideShapes Go.ChangeAt Go.RowKit
set_option linter.unusedVariables false

theorem or32 (p s t : Nat) (hp : p < 65536) (hs : s < 256) (ht : t < 128) :
    bits .or .u32 (bits .or .u32 ((p : Int) * 65536) ((s : Int) * 256)) ((t : Int) * 2) = ((mkW p s t false : Nat) : Int) := by
  have e1 : bits .or .u32 ((p : Int) * 65536) ((s : Int) * 256) = ((p * 65536 + s * 256 : Nat) : Int) := by
    have h := u32_or_nat (p * 65536) (s * 256) (by omega) (by omega)
    have a := or_add (a := p) (b := s * 256) 16 (by omega)
    rw [show (2 : Nat) ^ 16 = 65536 from rfl] at a
    rw [a] at h
    rw [← h]
    congr 1
  rw [e1]
  have h := u32_or_nat (p * 65536 + s * 256) (t * 2) (by omega) (by omega)
  have a := or_add (a := p * 256 + s) (b := t * 2) 8 (by omega)
  rw [show (2 : Nat) ^ 8 = 256 from rfl, show (p * 256 + s) * 256 = p * 65536 + s * 256 by omega] at a
  rw [a] at h
  have e2 : mkW p s t false = p * 65536 + s * 256 + t * 2 := by simp [mkW]
  rw [e2, ← h]
  congr 1
theorem or1 (p s t : Nat) (hp : p < 65536) (hs : s < 256) (ht : t < 128) :
    bits .or .u32 ((mkW p s t false : Nat) : Int) 1 = ((mkW p s t true : Nat) : Int) := by
  have e2 : mkW p s t false = p * 65536 + s * 256 + t * 2 := by simp [mkW]
  have e3 : mkW p s t true = p * 65536 + s * 256 + t * 2 + 1 := by simp [mkW]
  rw [e2, e3]
  have h := u32_or_nat (p * 65536 + s * 256 + t * 2) 1 (by omega) (by omega)
  have a := or_add (a := p * 32768 + s * 128 + t) (b := 1) 1 (by omega)
  rw [show (2 : Nat) ^ 1 = 2 from rfl, show (p * 32768 + s * 128 + t) * 2 = p * 65536 + s * 256 + t * 2 by omega] at a
  rw [a] at h
  rw [← h]
  rfl

set_option maxRecDepth 4000 in
theorem word_any (p s t : Nat) (v : Bool) (w : World) (hp : p < 65536) (hs : s < 256) (ht : t < 128) :
    Calls Tryd.prog 21 #[ev p s t v] w fun e w' => e = .returned (.int .u32 (mkW p s t v : Nat)) ∧ Below w.heap.size w w' := by
  have O := or32 p s t hp hs ht
  have O1 := or1 p s t hp hs ht
  have p0 : 0 ≤ (p : Int) := by omega
  have p1 : (p : Int) ≤ 65535 := by omega
  have s0 : 0 ≤ (s : Int) := by omega
  have s1 : (s : Int) ≤ 255 := by omega
  have t0 : 0 ≤ (t : Int) := by omega
  have t1 : (t : Int) ≤ 127 := by omega
  clear hp hs ht
  cases v
  · generalize ((mkW p s t false : Nat) : Int) = m at *
    generalize (p : Int) = p at *
    generalize (s : Int) = s at *
    generalize (t : Int) = t at *
    clear O1
    go_enter Tryd.func21, Tryd.ntmps21
    go_wp2
    go_ret
    exact ⟨rfl, (Below.refl _ _).alloc (Nat.le_refl _) _⟩
  · generalize ((mkW p s t false : Nat) : Int) = m at *
    generalize ((mkW p s t true : Nat) : Int) = m2 at *
    generalize (p : Int) = p at *
    generalize (s : Int) = s at *
    generalize (t : Int) = t at *
    go_enter Tryd.func21, Tryd.ntmps21
    go_wp2
    go_ret
    exact ⟨rfl, (Below.refl _ _).alloc (Nat.le_refl _) _⟩
end Go.Proofs.YtbghbfgbpdppeaaDoor
