/- TextBytes is true of every input: the walk, where the tables of unicode/utf8 stand. -/
import Derived.Test.YtcokkmjfdnigpaaDoorTextR
namespace Go.Proofs.YtcokkmjfdnigpaaDoor
open Go.ChangeShapes Go.WideShapes Go.ChangeAt Go.RowKit Go.Lib

set_option maxRecDepth 100000 in
theorem walk_TextBytes (v : Value) (zs : List Int) (w : World) (hr : Rd w v zs) (hT : TabsU w) :
    Calls Tryd.prog 3 #[v] w fun e w' => e = .returned (.bool true) ∧ Below w.heap.size w w' := by
  have K := Lib.hid (fun W (hb : Below w.heap.size w W) => awake_any W (hT.below hb))
  by_cases hs : zs.length ≤ 200
  · cases hz : zs.all isZ
    · have C1 := Lib.hid (Bytes_arg v zs w hr (by omega) hz)
      have C2 := Lib.hid (fun W (hb : Below w.heap.size w W) => rBytes_arg v zs W (hr.below hb) (by omega) hz)
      obtain ⟨A, c, rfl, hc, k2⟩ := hr
      clear k2 hz hT
      go_enter Tryd.func3, Tryd.ntmps3
      go_wp2_with (first
        | (go_at_call 11; (with_reducible refine C1.out.mono ?_); rintro e w1 ⟨rfl, hb1⟩)
        | (go_at_call 12; (with_reducible refine (C2.out _ hb1).mono ?_); rintro e w2 ⟨rfl, hb2⟩)
        | (go_at_call 10; (with_reducible refine (K.out _ (btr hb1 hb2)).mono ?_); rintro e w7 ⟨rfl, hb7⟩))
      go_ret
      exact ⟨rfl, btr (btr hb1 hb2) hb7⟩
    · obtain ⟨L, rfl⟩ := of_all hz
      rw [zl_all] at hz
      have hll : L.length ≤ 200 := by simpa using hs
      have C1 := Bytes_signs v L w hr (by omega) hz hT
      have C2 := fun W (hb : Below w.heap.size w W) => rBytes_signs v L W (hr.below hb) (by omega) hz
      have hjl := jn_len L
      have hsz : (ByteArray.mk (jn L).toArray).size = (jn L).length := by show (jn L).toArray.size = _; simp
      have hT' := Lib.hid hT
      have hr' := Lib.hid hr
      cases hq : sgs (jn L) == L
      · rw [hq] at C1
        simp only [hq] at C2
        replace C1 := Lib.hid C1
        replace C2 := Lib.hid C2
        obtain ⟨A, c, rfl, hc, k2⟩ := hr.nat
        clear k2 hz hT hr hq hjl hsz hs
        go_enter Tryd.func3, Tryd.ntmps3
        go_wp2_with (first
          | (go_at_call 11; (with_reducible refine C1.out.mono ?_); rintro e w1 ⟨rfl, hb1⟩)
          | (go_at_call 12; (with_reducible refine (C2.out _ hb1).mono ?_); rintro e w2 ⟨rfl, hb2⟩)
          | (go_at_call 10; (with_reducible refine (K.out _ (btr hb1 hb2)).mono ?_); rintro e w7 ⟨rfl, hb7⟩))
        go_ret
        exact ⟨rfl, btr (btr hb1 hb2) hb7⟩
      · rw [hq] at C1
        simp only [hq] at C2
        have hL := beq_iff_eq.1 hq
        have C3 : Hid (∀ W, TabsU W → Calls Tryd.prog 14 #[.string ⟨(jn L).toArray⟩] W fun e w' => ∃ u, e = .returned u ∧ Own w' W.heap.size u L ∧ Below W.heap.size W w') := Lib.hid (fun W h => by
          have h1 := signs_any ⟨(jn L).toArray⟩ W (by omega) h
          rw [bl_mk, hL] at h1
          exact h1)
        have C4 : Hid (∀ (u : Value) (W : World), Rd W u (zl L) → Rd W v (zl L) → Calls Tryd.prog 13 #[u, v] W fun e w' => e = .returned (.bool true) ∧ Below W.heap.size W w') := Lib.hid (fun u W h h2 => by
          have h1 := same_any u v _ _ W h h2 (by simp; omega) (by simp; omega)
          rw [beq_self_eq_true] at h1
          exact h1)
        replace C1 := Lib.hid C1
        replace C2 := Lib.hid C2
        obtain ⟨A, c, rfl, hc, k2⟩ := hr.nat
        clear k2 hz hT hr hq hjl hsz hs hL
        generalize ByteArray.mk (jn L).toArray = S at *
        go_enter Tryd.func3, Tryd.ntmps3
        go_wp2_with (first
          | (go_at_call 11; (with_reducible refine C1.out.mono ?_); rintro e w1 ⟨rfl, hb1⟩)
          | (go_at_call 12; (with_reducible refine (C2.out _ hb1).mono ?_); rintro e w2 ⟨rfl, hb2⟩)
          | (go_at_call 14; (with_reducible refine (C3.out w2 (hT'.out.below (btr hb1 hb2))).mono ?_); rintro e w3 ⟨u, rfl, hO, hb3⟩)
          | (go_at_call 13; (with_reducible refine (C4.out u w3 (Rd.of_own hO) (hr'.out.below (btr (btr hb1 hb2) hb3))).mono ?_); rintro e w4 ⟨rfl, hb4⟩)
          | (go_at_call 10; (with_reducible refine (K.out _ (btr (btr (btr hb1 hb2) hb3) hb4)).mono ?_); rintro e w7 ⟨rfl, hb7⟩))
        go_ret
        exact ⟨rfl, btr (btr (btr (btr hb1 hb2) hb3) hb4) hb7⟩
  · obtain ⟨A, c, rfl, hc, k2⟩ := hr
    have hs2 : 200 < zs.length := by omega
    clear k2 hT
    go_enter Tryd.func3, Tryd.ntmps3
    go_wp2_with (go_at_call 10; (with_reducible refine (K.out w (Below.refl _ _)).mono ?_); rintro e w3 ⟨rfl, hb3⟩)
    go_ret
    exact ⟨rfl, hb3⟩
end Go.Proofs.YtcokkmjfdnigpaaDoor
