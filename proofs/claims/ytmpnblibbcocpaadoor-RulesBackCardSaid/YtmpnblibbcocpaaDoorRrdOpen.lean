
/- An argument that is a list of the document's rules reads as one, and none of its sequences is too great: nil, empty or not. No condition beyond what the theorem states. -/
import Derived.Test.YtmpnblibbcocpaaDoorRdOpen
import Derived.Test.YtmpnblibbcocpaaDoorRulesT
import Derived.Deep.Slices
import Derived.Deep.Strs
namespace Go.Proofs.YtmpnblibbcocpaaDoor
open Go.ChangeShapes Go.WideShapes Go.ChangeAt Go.RowKit
set_option linter.unusedVariables false

theorem cellsSl : Tryd.prog.cellsOf 33 = 1 := by kernel_rfl
theorem cellsRule : Tryd.prog.cellsOf 35 = 3 := by kernel_rfl
theorem bytesInt : Tryd.prog.bytesOf 3 = 8 := by kernel_rfl
theorem weightsAll_mem {H : Type} {P : Program} {e : TypeId} : ∀ (l : List (DataW H)) (d : DataW H), d ∈ l → ∀ n ∈ d.weights P e, n ∈ DataW.weightsAll P e l
  | [], _, h, _, _ => by cases h
  | x :: l, d, h, n, hn => by
    unfold DataW.weightsAll
    rcases List.mem_cons.1 h with h | h
    · subst h
      exact List.mem_append.2 (.inl hn)
    · exact List.mem_append.2 (.inr (weightsAll_mem l d h n hn))
/-- a sequence's one cell -/
theorem rd_of_cell {H : Type} {enc : TypeId × Value → H} {W : World} {fuel : Nat} {v : Value} {x : DataW H × List MemPlace}
    (h : DataW.trod enc Tryd.prog W 0 (fun _ => true) true fuel 33 [v] = some x) (hs : ∀ n ∈ x.1.weights Tryd.prog 33, n ≤ reachBytes) : ∃ zs, Rd W v zs ∧ zs.length ≤ 17592186044416 := by
  rcases open_ints Tryd.underlying33 Tryd.underlying3 cellsInt h with ⟨hcs, _⟩ | ⟨a, len', cap', zs, hcs, _, hl, hm, hz, hx, hcell, _⟩
  · obtain rfl : v = .slice none 0 0 := by simpa using hcs
    exact ⟨[], ⟨none, 0, rfl, Nat.le_refl _, fun h => by simp at h⟩, by simp⟩
  · obtain rfl : v = .slice (some a) len' cap' := by simpa using hcs
    simp only [if_true] at hz
    have hlen : (zs.take len').length = len' := by rw [List.length_take]; omega
    refine ⟨zs.take len', ⟨some a, cap', by rw [hlen], by rw [hlen]; exact hl, fun h0 => ?_⟩, ?_⟩
    · rw [hlen] at h0
      obtain ⟨b, o, spot⟩ := a
      have hspot : spot = none := by simpa [Addr.add] using World.cell?_spot (hcell 0 (by omega))
      subst hspot
      have hc0 : ∀ j, j < zs.length → W.cell? ⟨b, o + j, none⟩ = some (.int .i64 (zs.getD j 0)) := fun j hj => by
        have := hcell j hj
        by_cases hj0 : j = 0
        · subst hj0
          simpa [Addr.add] using this
        · simpa [Addr.add, hj0] using this
      refine ⟨b, o, rfl, lt_of_cell (hc0 0 (by omega)), fun j hj => ?_⟩
      rw [hlen] at hj
      rw [hc0 j (by omega)]
      simp [List.getD, hj]
    · rw [hx] at hs
      have h8 := hs (((lits .i64 (zs.take len')).length + (lits .i64 (zs.drop len')).length) * Tryd.prog.bytesOf 3) (by
        unfold DataW.weights
        rw [Tryd.underlying33]
        exact List.mem_cons_self ..)
      rw [bytesInt] at h8
      simp only [lits, List.length_map, List.length_take, List.length_drop, reachBytes] at h8
      rw [List.length_take]
      omega
instance : Inhabited RlZ := ⟨⟨0, [], []⟩⟩
theorem rrd_of_trod {H : Type} {enc : TypeId × Value → H} {W : World} {base : Nat} {v : Value} {d : DataW H} {p : List MemPlace} (hval : Value.okWide Tryd.prog W .any base 27 v)
    (h : DataW.Trod enc Tryd.prog W 0 (fun _ => true) true 27 v d p) (hs : ∀ n ∈ d.weights Tryd.prog 27, n ≤ reachBytes) :
    ∃ L, RRd W v L ∧ ∀ x ∈ L, x.seq.length ≤ 17592186044416 ∧ x.exp.length ≤ 17592186044416 := by
  obtain ⟨fuel, hf⟩ := h
  obtain ⟨a0, len, cap, rfl⟩ := okWide_slice Tryd.underlying27 hval
  rcases Deep.open_slice Tryd.underlying27 hf with ⟨hcs, _⟩ | ⟨a, len', cap', m, n, D, Pl, hcs, _, hl, hm, hmm, hx, hel⟩
  · simp [Value.cells] at hcs
    obtain ⟨rfl, rfl, rfl⟩ := hcs
    exact ⟨[], ⟨none, 0, rfl, Nat.le_refl _, fun h => by simp at h⟩, fun x hx => by cases hx⟩
  · simp [Value.cells] at hcs
    obtain ⟨rfl, rfl, rfl⟩ := hcs
    simp only [if_true] at hmm
    subst hmm
    obtain ⟨rfl, rfl⟩ := Prod.mk.inj hx
    have hD : ∀ i, i < len → ∀ q ∈ (D i).weights Tryd.prog 35, q ≤ reachBytes := fun i hi q hq => hs q (by
      unfold DataW.weights
      rw [Tryd.underlying27]
      exact List.mem_cons_of_mem _ (List.mem_append.2 (.inl (weightsAll_mem _ (D i) (List.mem_map.2 ⟨i, List.mem_range.2 hi, rfl⟩) q hq))))
    clear hs hx
    have each : ∀ i, i < len → ∃ x : RlZ, (∃ s e, W.cell? (a.add (i * 3)) = some (.int .i64 x.rel) ∧ W.cell? (a.add (i * 3 + 1)) = some s ∧ W.cell? (a.add (i * 3 + 2)) = some e ∧ Rd W s x.seq ∧ Rd W e x.exp) ∧ x.seq.length ≤ 17592186044416 ∧ x.exp.length ≤ 17592186044416 := by
      intro i hi
      obtain ⟨cs', h1, h2⟩ := hel i (by omega)
      rw [cellsRule] at h1
      obtain ⟨_, hlen, hcell⟩ := World.cells?_some h1
      obtain ⟨y0, y1, y2, n', hxy, _, g0, g1, g2⟩ := Deep.trod_struct3 Tryd.underlying35 h2
      match cs', hlen with
      | [v0, v1, v2], _ =>
        simp only [cellsInt, cellsSl, List.drop_zero, List.drop_succ_cons, List.take_succ_cons, List.take_zero] at g0 g1 g2
        have e0 := hcell 0 (by omega)
        have e1 := hcell 1 (by omega)
        have e2 := hcell 2 (by omega)
        rw [Deep.add_add] at e0 e1 e2
        have hDi := hD i hi
        obtain ⟨hD0, _⟩ := Prod.mk.inj hxy
        rw [hD0] at hDi
        have w1 : ∀ q ∈ y1.1.weights Tryd.prog 33, q ≤ reachBytes := fun q hq => hDi q (by
          unfold DataW.weights
          rw [Tryd.underlying35]
          simp only [List.map_cons, List.map_nil, DataW.weightsEach]
          exact List.mem_append.2 (.inr (List.mem_append.2 (.inl hq))))
        have w2 : ∀ q ∈ y2.1.weights Tryd.prog 33, q ≤ reachBytes := fun q hq => hDi q (by
          unfold DataW.weights
          rw [Tryd.underlying35]
          simp only [List.map_cons, List.map_nil, DataW.weightsEach]
          exact List.mem_append.2 (.inr (List.mem_append.2 (.inr (List.mem_append.2 (.inl hq))))))
        obtain ⟨z, hz, _, _⟩ := DataW.trod_int Tryd.underlying3 g0
        obtain rfl : v0 = .int .i64 z := by simpa using hz
        obtain ⟨sq, r1, b1⟩ := rd_of_cell g1 w1
        obtain ⟨ex, r2, b2⟩ := rd_of_cell g2 w2
        exact ⟨⟨z, sq, ex⟩, ⟨v1, v2, by simpa using e0, by simpa using e1, by simpa using e2, r1, r2⟩, b1, b2⟩
    obtain ⟨f, hfx⟩ := Deep.choose_lt each
    have hlenL : ((List.range len).map f).length = len := by simp
    refine ⟨(List.range len).map f, ⟨some a, m, by rw [hlenL], by rw [hlenL]; exact hl, fun h0 => ?_⟩, fun x hx => ?_⟩
    · rw [hlenL] at h0
      obtain ⟨⟨s, e, q0, _⟩, _⟩ := hfx 0 h0
      obtain ⟨b, o, spot⟩ := a
      have hspot : spot = none := by simpa [Addr.add] using World.cell?_spot q0
      subst hspot
      have had : ∀ j, (⟨b, o, none⟩ : Addr).add j = ⟨b, o + j, none⟩ := fun j => by
        unfold Addr.add
        cases j <;> rfl
      rw [had] at q0
      refine ⟨b, o, rfl, lt_of_cell q0, fun j x hj => ?_⟩
      rw [List.getElem?_map, Option.map_eq_some_iff] at hj
      obtain ⟨i, hi, rfl⟩ := hj
      have hil := (List.getElem?_eq_some_iff.1 hi).1
      have hij : i = j := by
        have := (List.getElem?_eq_some_iff.1 hi).2
        rw [List.getElem_range] at this
        exact this.symm
      subst hij
      obtain ⟨⟨s, e, t0, t1, t2, t3, t4⟩, _⟩ := hfx i (by simpa using hil)
      rw [had] at t0 t1 t2
      exact ⟨s, e, t0, t1, t2, t3, t4⟩
    · obtain ⟨i, hi, rfl⟩ := List.mem_map.1 hx
      exact (hfx i (List.mem_range.1 hi)).2
end Go.Proofs.YtmpnblibbcocpaaDoor
