
/- Two lists held against each other (slices.Equal); signs' bytes as a text, or refused (utext.Bytes). -/
import Derived.Test.YtbghbfgbpdppeaaGreatDoorTextF
namespace Go.Proofs.YtbghbfgbpdppeaaGreatDoor.Tx
open Go.ChangeShapes Go.WideShapes Go.ChangeAt Go.RowKit Go.Lib

theorem btr {w w1 w2 : World} (h : Below w.heap.size w w1) (h2 : Below w1.heap.size w1 w2) : Below w.heap.size w w2 := h.trans (h2.mono h.size)
theorem below_drewN (w : World) (q : Nat) : Below w.heap.size w (w.drewN q) := ⟨rfl, rfl, rfl, Nat.le_refl _, fun _ _ => rfl⟩

/-- numbers as integers -/
abbrev zl (l : List Nat) : List Int := l.map fun (c : Nat) => (c : Int)
theorem zl_all : ∀ l : List Nat, (zl l).all isZ = l.all isSg
  | [] => rfl
  | c :: l => by
    have ih := zl_all l
    simp only [List.map_cons, List.all_cons] at ih ⊢
    rw [ih, isZ_nat]
theorem zl_inj {l m : List Nat} : (zl l == zl m) = (l == m) := by
  rw [Bool.eq_iff_iff, beq_iff_eq, beq_iff_eq]
  constructor
  · intro h
    have := congrArg (List.map Int.toNat) h
    rw [List.map_map, List.map_map] at this
    have e : ∀ k : List Nat, List.map (Int.toNat ∘ fun (c : Nat) => (c : Int)) k = k := fun k => (List.map_congr_left (fun c _ => by simp)).trans (List.map_id k)
    rwa [e, e] at this
  · rintro rfl; rfl
theorem of_all {zs : List Int} (h : zs.all isZ = true) : ∃ l : List Nat, zs = zl l := by
  refine ⟨zs.map Int.toNat, ?_⟩
  unfold zl
  rw [List.map_map]
  symm
  refine (List.map_congr_left (fun z hz => ?_)).trans (List.map_id zs)
  have := List.all_eq_true.1 h z hz
  unfold isZ at this
  rw [decide_eq_true_eq] at this
  simp only [Function.comp]
  have h0 : 0 ≤ z := by omega
  show ((z.toNat : Nat) : Int) = z
  omega
theorem bl_mk (l : List UInt8) : bl ⟨l.toArray⟩ = l := rfl

end Go.Proofs.YtbghbfgbpdppeaaGreatDoor.Tx
