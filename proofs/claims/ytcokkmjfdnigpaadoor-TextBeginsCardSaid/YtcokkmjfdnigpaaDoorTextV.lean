/- Two lists of the call's own, one behind the other by append: what it yields. -/
import Derived.Test.YtcokkmjfdnigpaaDoorTextT
import Derived.Maps.AppendAt
namespace Go.Proofs.YtcokkmjfdnigpaaDoor
open Go.ChangeShapes Go.WideShapes Go.ChangeAt Go.RowKit Go.Lib
set_option linter.unusedVariables false

theorem load_none (w : World) (b : Addr) : (loadCells b 0).run Tryd.prog w = .ok #[] w := by
  have := run_loadCells_list (P := Tryd.prog) w b [] (fun j v hj => by simp at hj)
  simpa using this
theorem append_empty (w : World) (ty : TypeId) (A B : Option Addr) (n c : Nat) :
    (Builtin.append_ #[22, 22] ty #[.slice A n n, .slice B 0 c]).run Tryd.prog w = .ok (.slice A n n) w := by
  obtain ⟨i0, hi, hz0, hz1, hz2⟩ := info_parts info3
  rcases A with _ | a <;> rcases B with _ | b
  all_goals simp [Builtin.append_, run_underlying Tryd.underlying22, sizeOf, typeInfo, hi, Builtin.lenOf, Builtin.firstCells, storeCells, load_none]

/-- what append yields of two such lists -/
theorem append_two (w : World) (ty : TypeId) (A B : Option Addr) (b1 b2 m : Nat) (L1 L2 : List Nat) (h1 : Own w b1 (.slice A L1.length L1.length) L1) (h2 : Own w b2 (.slice B L2.length m) L2) (hl : L1.length + L2.length ≤ 1000000) :
    ∃ v' w', (Builtin.append_ #[22, 22] ty #[.slice A L1.length L1.length, .slice B L2.length m]).run Tryd.prog w = .ok v' w' ∧ Rd w' v' (zl (L1 ++ L2)) ∧ Below w.heap.size w w' := by
  obtain ⟨i0, hi, hz0, hz1, hz2⟩ := info_parts info3
  by_cases h0 : L2.length = 0
  · have e2 : L2 = [] := List.eq_nil_of_length_eq_zero h0
    subst e2
    exact ⟨_, w, append_empty w ty A B L1.length m, by rw [List.append_nil]; exact Rd.of_own h1, Below.refl _ _⟩
  · rcases B with _ | b
    · rcases h2 with ⟨_, h⟩ | ⟨g, cap, cur, hv, _⟩
      · subst h; simp at h0
      · cases hv
    · have hb : ∃ g, b = ⟨g, 0, none⟩ := by
        rcases h2 with ⟨h, _⟩ | ⟨g, cap, cur, hv, _⟩
        · cases h
        · injection hv with e1 _ _
          injection e1 with e1
          exact ⟨g, e1⟩
      obtain ⟨g2, rfl⟩ := hb
      obtain ⟨_, _, hc2⟩ := h2.cells
      rcases A with _ | a
      · have e1 : L1 = [] := by
          rcases h1 with ⟨_, h⟩ | ⟨g, cap, cur, hv, _⟩
          · exact h
          · cases hv
        subst e1
        obtain ⟨v', w', hr, ho, hg, _⟩ := run_append_own_at (P := Tryd.prog) w w.heap.size 22 ty 3 i0 (.int .i64 0) 1 8 Tryd.underlying22 hi hz0 hz1 hz2 rfl (by decide) (.slice none 0 0) 0 [] (World.ownsRow_nil _ _ _ _) ⟨g2, 0, none⟩ L2.length m (cl L2) (by simp [cl]) hc2 (fun u hu => by
          obtain ⟨c, _, rfl⟩ := List.mem_map.1 hu
          rfl) (by simp only [maxLen]; simp at hl; omega) (by simp at hl; omega) (Nat.le_refl _)
        rw [List.nil_append, Nat.zero_add] at ho
        exact ⟨v', w', hr, Rd.of_own (Own.of_row ho), (Below.refl _ _).grown hg (Nat.le_refl _) (by simp [Value.ownBlock])⟩
      · have hb : ∃ g, a = ⟨g, 0, none⟩ := by
          rcases h1 with ⟨h, _⟩ | ⟨g, cap, cur, hv, _⟩
          · cases h
          · injection hv with e1 _ _
            injection e1 with e1
            exact ⟨g, e1⟩
        obtain ⟨g1, rfl⟩ := hb
        obtain ⟨_, _, hc1⟩ := h1.cells
        obtain ⟨v', w', hr, ho, hg⟩ := run_append_arg_grows (P := Tryd.prog) w 22 ty 3 i0 (.int .i64 0) 1 8 Tryd.underlying22 hi hz0 hz1 hz2 rfl (by decide) ⟨g1, 0, none⟩ L1.length L1.length (cl L1) (by simp [cl]) hc1 ⟨g2, 0, none⟩ L2.length m (cl L2) (by simp [cl]) hc2 (by omega) (by simp only [maxLen]; omega) (by omega)
        have ho' : w'.ownsRow w.heap.size 3 1 v' (L1 ++ L2).length (cl (L1 ++ L2)) := by
          rw [List.length_append]
          simpa [cl] using ho
        exact ⟨v', w', hr, Rd.of_own (Own.of_row ho'), (Below.refl _ _).grown hg (Nat.le_refl _) (fun _ h => by cases h)⟩
end Go.Proofs.YtcokkmjfdnigpaaDoor
