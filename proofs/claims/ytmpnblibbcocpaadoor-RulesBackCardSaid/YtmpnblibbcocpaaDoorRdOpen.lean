
/- An argument that is a list of numbers reads as one: nil, empty or not. No condition beyond what the theorem states. -/
import Derived.Test.YtmpnblibbcocpaaDoorTextE
import Derived.ChangeSlices
import Derived.OpenShut
namespace Go.Proofs.YtmpnblibbcocpaaDoor
open Go.ChangeShapes Go.WideShapes Go.ChangeAt Go.RowKit

theorem cellsInt : Tryd.prog.cellsOf 3 = 1 := by kernel_rfl
theorem lt_of_cell {W : World} {b o : Nat} {v : Value} (h : W.cell? ⟨b, o, none⟩ = some v) : b < W.heap.size := by
  rcases Nat.lt_or_ge b W.heap.size with hlt | hge
  · exact hlt
  · have h0 : W.heap[b]? = none := Array.getElem?_eq_none hge
    unfold World.cell? at h
    simp [h0] at h
theorem rd_of_trod {H : Type} {enc : TypeId × Value → H} {W : World} {base : Nat} {v : Value} {d : DataW H} {p : List MemPlace} (hval : Value.okWide Tryd.prog W .any base 33 v)
    (h : DataW.Trod enc Tryd.prog W 0 (fun _ => true) true 33 v d p) : ∃ zs, Rd W v zs := by
  obtain ⟨fuel, hf⟩ := h
  obtain ⟨a0, len, cap, rfl⟩ := okWide_slice Tryd.underlying33 hval
  rcases open_ints Tryd.underlying33 Tryd.underlying3 cellsInt hf with ⟨hcs, _⟩ | ⟨a, len', cap', zs, hcs, _, hl, hm, hz, _, hcell, _⟩
  · simp [Value.cells] at hcs
    obtain ⟨rfl, rfl, rfl⟩ := hcs
    exact ⟨[], none, 0, rfl, Nat.le_refl _, fun h => by simp at h⟩
  · simp [Value.cells] at hcs
    obtain ⟨rfl, rfl, rfl⟩ := hcs
    simp only [if_true] at hz
    have hlen : (zs.take len).length = len := by rw [List.length_take]; omega
    refine ⟨zs.take len, some a, cap, by rw [hlen], by rw [hlen]; exact hl, fun h0 => ?_⟩
    rw [hlen] at h0
    obtain ⟨b, o, spot⟩ := a
    have hspot : spot = none := by simpa [Addr.add] using World.cell?_spot (hcell 0 (by omega))
    subst hspot
    have hc0 : ∀ j, j < zs.length → W.cell? ⟨b, o + j, none⟩ = some (.int .i64 (zs.getD j 0)) := fun j hj => by
      have := hcell j hj
      by_cases hj0 : j = 0
      · subst hj0
        simpa [Addr.add] using this
      · simpa [Addr.add, hj0] using this
    refine ⟨b, o, rfl, lt_of_cell (hc0 0 (by omega)), fun j hj => ?_⟩
    rw [hlen] at hj
    rw [hc0 j (by omega)]
    simp [List.getD, hj]
end Go.Proofs.YtmpnblibbcocpaaDoor
