
/- The law's own look (awake) is true where the tables of unicode/utf8 stand. -/
import Derived.Test.YtmpnblibbcocpaaDoorTextG
namespace Go.Proofs.YtmpnblibbcocpaaDoor
open Go.ChangeShapes Go.WideShapes Go.ChangeAt Go.RowKit Go.Lib

theorem Rd.lit (W : World) (zs : List Int) (n : Nat) (hn : n = zs.length) : Rd (W.alloc (.cells (zs.map (Value.int .i64)).toArray 3)) (.slice (some ⟨W.heap.size, 0, none⟩) n n) zs := by
  subst hn
  refine ⟨_, _, rfl, Nat.le_refl _, fun _ => ⟨W.heap.size, 0, rfl, by simp, fun j hj => ?_⟩⟩
  rw [Nat.zero_add, World.cell?_alloc_at _ _ _ _ rfl]
  simp [List.getD, hj]

theorem sg_lit1 : sgs [97, 195, 169, 255] = [97, 233, 1114367] := by
  have e1 : sg [97, 195, 169, 255] = (97, 1) := by decide +kernel
  have e2 : sg [195, 169, 255] = (233, 2) := by decide +kernel
  have e3 : sg [255] = (1114367, 1) := by decide +kernel
  rw [sgs_step (by simp), e1]
  show _ :: sgs [195, 169, 255] = _
  rw [sgs_step (by simp), e2]
  show _ :: _ :: sgs [255] = _
  rw [sgs_step (by simp), e3]
  show _ :: _ :: _ :: sgs [] = _
  rw [sgs_nil]
theorem sg_lit2 : (sgs (jn [1114307, 1114281]) == [1114307, 1114281]) = false := by
  have e0 : jn [1114307, 1114281] = [195, 169] := by decide +kernel
  have e1 : sg [195, 169] = (233, 2) := by decide +kernel
  rw [e0, sgs_step (by simp), e1]
  show (233 :: sgs [] == _) = _
  rw [sgs_nil]
  rfl

theorem look1 (w : World) (hT : TabsU w) : Calls Tryd.prog 15 #[.string ⟨#[97, 195, 169, 255]⟩] w fun e w' =>
    ∃ g c, e = .returned (.slice (some ⟨g, 0, none⟩) 3 c) ∧ 3 ≤ c ∧ g < w'.heap.size ∧ w'.cell? ⟨g, 1, none⟩ = some (.int .i64 233) ∧ w'.cell? ⟨g, 2, none⟩ = some (.int .i64 1114367) ∧ Below w.heap.size w w' := by
  refine (signs_any ⟨#[97, 195, 169, 255]⟩ w (by decide +kernel) hT).mono ?_
  rintro e w' ⟨v, rfl, hO, hb⟩
  have hO' : Own w' w.heap.size v [97, 233, 1114367] := by
    have : bl ⟨#[97, 195, 169, 255]⟩ = [97, 195, 169, 255] := rfl
    rw [this, sg_lit1] at hO
    exact hO
  rcases hO' with ⟨_, h⟩ | ⟨g, cap, cur, rfl, h1, hg, hn, hc, hs, ht⟩
  · cases h
  · have cell : ∀ j, j < 3 → w'.cell? ⟨g, j, none⟩ = (cl [97, 233, 1114367])[j]? := fun j hj => by
      rw [cell_of_row w' g j cur 3 (0, 0) hg, ← Array.getElem?_toList, ← ht, List.getElem?_take_of_lt (by simpa using hj)]
    exact ⟨g, cap, rfl, by simpa using hn, (Array.getElem?_eq_some_iff.1 hg).1, cell 1 (by omega), cell 2 (by omega), hb⟩
end Go.Proofs.YtmpnblibbcocpaaDoor
