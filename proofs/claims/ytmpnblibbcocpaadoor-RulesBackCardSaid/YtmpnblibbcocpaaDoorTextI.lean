
/- How many signs a text has (utext.Count); whether all are code points (utext.Valid). -/
import Derived.Test.YtmpnblibbcocpaaDoorTextH
import Derived.Test.YtmpnblibbcocpaaDoorTextW
import Derived.Test.YtmpnblibbcocpaaDoorShelfV
namespace Go.Proofs.YtmpnblibbcocpaaDoor
open Go.ChangeShapes Go.WideShapes Go.ChangeAt Go.RowKit Go.Lib

theorem below_iter (w : World) (s : ByteArray) (pos : Nat) : Below w.heap.size w (w.iter s pos) := (Below.refl _ _).alloc (Nat.le_refl _) _

/-- a list of numbers from 0 on, in memory: its slice and its cells -/
theorem Rd.nat {w : World} {v : Value} {L : List Nat} (h : Rd w v (zl L)) : ∃ A c, v = .slice A L.length c ∧ L.length ≤ c ∧
    (0 < L.length → ∃ b o, A = some ⟨b, o, none⟩ ∧ b < w.heap.size ∧ ∀ j, j < L.length → w.cell? ⟨b, o + j, none⟩ = some (.int .i64 (L.getD j 0 : Nat))) := by
  obtain ⟨A, c, rfl, hc, k⟩ := h
  rw [List.length_map] at *
  refine ⟨A, c, rfl, hc, fun h0 => ?_⟩
  obtain ⟨b, o, rfl, hlt, hcell⟩ := k h0
  refine ⟨b, o, rfl, hlt, fun j hj => ?_⟩
  rw [hcell j hj]
  simp [List.getD, hj]
theorem take_all {L : List Nat} {k : Nat} (p : Nat → Bool) (h : k < L.length) : (L.take (k + 1)).all p = ((L.take k).all p && p (L.getD k 0)) := by
  rw [List.take_add_one, List.getElem?_eq_getElem h, List.all_append]
  simp [List.getD, h]

end Go.Proofs.YtmpnblibbcocpaaDoor
