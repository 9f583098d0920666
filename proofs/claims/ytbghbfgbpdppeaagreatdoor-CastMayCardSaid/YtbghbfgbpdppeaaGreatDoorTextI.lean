
/- How many signs a text has (utext.Count); whether all are code points (utext.Valid). -/
import Derived.Test.YtbghbfgbpdppeaaGreatDoorTextH
import Derived.Test.YtbghbfgbpdppeaaGreatDoorTextW
import Derived.Test.YtbghbfgbpdppeaaGreatDoorShelfV
namespace Go.Proofs.YtbghbfgbpdppeaaGreatDoor.Tx
open Go.ChangeShapes Go.WideShapes Go.ChangeAt Go.RowKit Go.Lib

theorem below_iter (w : World) (s : ByteArray) (pos : Nat) : Below w.heap.size w (w.iter s pos) := (Below.refl _ _).alloc (Nat.le_refl _) _

/-- a list of numbers from 0 on, in memory: its slice and its cells -/
theorem Rd.nat {w : World} {v : Value} {L : List Nat} (h : Rd w v (zl L)) : ∃ A c, v = .slice A L.length c ∧ L.length ≤ c ∧
    (0 < L.length → ∃ b o, A = some ⟨b, o, none⟩ ∧ b < w.heap.size ∧ ∀ j, j < L.length → w.cell? ⟨b, o + j, none⟩ = some (.int .i64 (L.getD j 0 : Nat))) := by
  obtain ⟨A, c, rfl, hc, k⟩ := h
  rw [List.length_map] at *
  refine ⟨A, c, rfl, hc, fun h0 => ?_⟩
  obtain ⟨b, o, rfl, hlt, hcell⟩ := k h0
  refine ⟨b, o, rfl, hlt, fun j hj => ?_⟩
  rw [hcell j hj]
  simp [List.getD, hj]
theorem take_all {L : List Nat} {k : Nat} (p : Nat → Bool) (h : k < L.length) : (L.take (k + 1)).all p = ((L.take k).all p && p (L.getD k 0)) := by
  rw [List.take_add_one, List.getElem?_eq_getElem h, List.all_append]
  simp [List.getD, h]

theorem Count_any (s : ByteArray) (w : World) (hs : s.size ≤ 1000000) :
    Calls Tryz.prog 29 #[.string s] w fun e w' => e = .returned (.int .i64 ((sgs (bl s)).length : Nat)) ∧ Below w.heap.size w w' := by
  have C := Tryz.utf8_RuneCountInString s w (by omega)
  rw [count_sgs] at C
  replace C := Lib.hid C
  generalize (sgs (bl s)).length = n at *
  go_enter Tryz.func29, Tryz.ntmps29
  go_wp2_with (go_at_call 47; (with_reducible refine C.out.mono ?_); rintro e w1 ⟨rfl, pos, rfl⟩)
  go_ret
  exact ⟨rfl, below_iter w s pos⟩
end Go.Proofs.YtbghbfgbpdppeaaGreatDoor.Tx
