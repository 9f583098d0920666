
/- strings.Join of an owned row of texts. Conditions stand at each theorem. -/
import Derived.Test.YtmpnblibbcocpaaDoorRulesV
namespace Go.Proofs.YtmpnblibbcocpaaDoor
open Go.ChangeShapes Go.WideShapes Go.ChangeAt Go.RowKit Go.Lib
set_option linter.unusedVariables false

def strs (ws : List (List UInt8)) : List Value := ws.map fun s => .string ⟨s.toArray⟩
theorem join_any (B : Nat) (v : Value) (ws : List (List UInt8)) (w : World) (h : w.ownsRow B 9 1 v ws.length (strs ws)) (hl : ws.length ≤ 1000000) (hj : (Lib.join ws [32]).length ≤ 100000) :
    Calls Tryd.prog 25 #[v, .string ⟨#[32]⟩] w fun e w' => e = .returned (.string ⟨(Lib.join ws [32]).toArray⟩) ∧ Below w.heap.size w w' := by
  have hx : (ws.map fun s => (⟨s.toArray⟩ : ByteArray)).map (·.data.toList) = ws := by
    rw [List.map_map]
    exact (List.map_congr_left (fun s _ => by simp)).trans (List.map_id ws)
  rcases h.2 with ⟨rfl, h0⟩ | ⟨g, cap, cur, rfl, hb, hg, hn, hr⟩
  · obtain rfl := List.eq_nil_of_length_eq_zero h0
    refine (Tryd.strings_Join_none none 0 ⟨#[32]⟩ w).mono ?_
    rintro e w' ⟨rfl, rfl⟩
    exact ⟨rfl, Below.refl _ _⟩
  · have J := Tryd.strings_Join g 0 cap (ws.map fun s => (⟨s.toArray⟩ : ByteArray)) ⟨#[32]⟩ w (fun j y hy => by
      rw [List.getElem?_map] at hy
      have := h.cells rfl j (.string y) (by
        unfold strs
        rw [List.getElem?_map]
        cases he : ws[j]? with
        | none => rw [he] at hy; cases hy
        | some q => rw [he] at hy; simp at hy; subst hy; rfl)
      cases j <;> simpa [Addr.add] using this) (Array.getElem?_eq_some_iff.1 hg).1 (by simp; omega) (by simp; omega) (by rw [hx]; show (Lib.join ws [32]).length ≤ _; omega)
    rw [hx, List.length_map] at J
    exact J
end Go.Proofs.YtmpnblibbcocpaaDoor
