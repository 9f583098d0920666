
/- CastBits is true of every input: the walk, where the listed variables stand. -/
import Derived.Test.YtbghbfgbpdppeaaGreatDoorCastF
import Derived.Test.YtbghbfgbpdppeaaGreatDoorCastG
namespace Go.Proofs.YtbghbfgbpdppeaaGreatDoor
open Go.ChangeShapes Go.WideShapes Go.ChangeAt Go.RowKit Go.Sort
set_option linter.unusedVariables false

theorem exit_world {K : Act → World → Prop} {Q : Exit → Act → World → Prop} {e : Exit} {a : Act} {w : World} (h : ∀ W, W = w → Exit.then K Q e a W) : Exit.then K Q e a w := h w rfl
theorem rint_exact (n : Int) (w : World) : Calls Tryz.prog 15 #[.int .i64 n] w fun e w' => e = .returned (tv 2 n) ∧ w.alloc (.cells #[.int .i64 2, .int .i64 n, .string { data := #[] }] 24) = w' := by
  go_enter Tryz.func15, Tryz.ntmps15
  go_wp2
  exact bodyPost_ret (v := tv 2 n) (by simp [results, Tryz.results15, go_sem]) rfl ⟨rfl, rfl⟩
set_option maxHeartbeats 1000000 in
set_option maxRecDepth 100000 in
theorem walk_CastBits (a b : Int) (wa : (Lit.int .i64 a).wf = true) (_wb : (Lit.int .i64 b).wf = true) (w : World) (hT : TabsX w) :
    Calls Tryz.prog 5 #[.int .i64 a, .int .i64 b] w fun e w' => e = .returned (.bool true) ∧ Below w.heap.size w w' := by
  have ha := fits_wf wa
  have K := Lib.hid (fun W (hb : Below w.heap.size w W) => awake_any W (hT.below hb))
  have L1 := xor_twice a b ha
  have L2 := bits_sum a b
  have L3 := bits_diff a b
  have B1 := fun W => bin_16 a b 0 W
  have B2 := fun W => bin_16 (bits .xor .i64 a b) b 0 W
  have B3 := fun W => bin_14 a b 0 W
  have B4 := fun W => bin_15 a b 0 W
  rw [L1] at B2
  have h3 : (wrap64 (bits .and .i64 a b + bits .or .i64 a b) == wrap64 (a + b)) = true := by rw [L2]; simp
  have h4 : (wrap64 (bits .or .i64 a b - bits .and .i64 a b) == bits .xor .i64 a b) = true := by rw [L3]; simp
  generalize bits .and .i64 a b = P at *
  generalize bits .or .i64 a b = Q at *
  obtain ⟨X, hX⟩ : ∃ X, X = bits .xor .i64 a b := ⟨_, rfl⟩
  rw [← hX] at B1 B2 h4
  have h5 : (X == bits .xor .i64 a b) = true := by rw [hX]; simp
  replace hX := Lib.hid hX
  replace B1 := Lib.hid B1
  replace B2 := Lib.hid B2
  replace B3 := Lib.hid B3
  replace B4 := Lib.hid B4
  clear wa _wb hT ha L1 L2 L3
  go_enter Tryz.func5, Tryz.ntmps5
  go_wp2_with (first
    | (go_at_call 15; (with_reducible refine (rint_any a w).mono ?_); rintro e w1 ⟨rfl, hb1⟩)
    | (go_at_call 15; (with_reducible refine (rint_any b w1).mono ?_); rintro e w2 ⟨rfl, hb2⟩)
    | (go_at_call 14; (with_reducible refine (B1.out w2).mono ?_); rintro e w3 ⟨rfl, hb3⟩; have hb4 := btr (btr hb1 hb2) hb3; clear hb1 hb2 hb3))
  refine wp_world (fun W hW => ?_)
  have hb5 : Below w.heap.size w W := by rw [hW]; exact btr hb4 (balloc _ _)
  have hz : w3.heap.size < W.heap.size := by rw [hW]; simp
  have c0 : W.cell? ⟨w3.heap.size, 0, none⟩ = some (.int .i64 2) := by rw [hW]; simp [go_sem]
  have c1 : W.cell? ⟨w3.heap.size, 1, none⟩ = some (.int .i64 X) := by rw [hW]; simp [go_sem]
  have c2 : W.cell? ⟨w3.heap.size, 2, none⟩ = some (.string { data := #[] }) := by rw [hW]; simp [go_sem]
  clear hW hb4
  have n0 : w3.heap.size ≠ W.heap.size := by omega
  have n0' : W.heap.size ≠ w3.heap.size := by omega
  go_region_held3 (fun W' => W'.cell? ⟨w3.heap.size, 0, none⟩ = some (.int .i64 2) ∧ W'.cell? ⟨w3.heap.size, 1, none⟩ = some (.int .i64 X) ∧ W'.cell? ⟨w3.heap.size, 2, none⟩ = some (.string { data := #[] })) (go_keep)
    (first
      | ((go_at_call 15; (with_reducible refine (rint_exact b _).mono ?_); rintro e w5 ⟨rfl, rfl⟩))
      | ((go_at_call 14; (with_reducible refine (B2.out _).mono ?_); rintro e w6 ⟨rfl, hb8⟩; have q1 := (fun o => hb8.cell (p := ⟨w3.heap.size, o, none⟩) (by simp; omega)); have q2 := (fun o => hb8.cell (p := ⟨W.heap.size, o, none⟩) (by simp <;> omega)); have q3 := (fun o => hb8.frozen (p := ⟨W.heap.size, o, none⟩) (by simp <;> omega)); have z6 := (show w3.heap.size < w6.heap.size by have := hb8.size; simp at this; omega); have n6 := Nat.ne_of_lt z6; have n6' := Nat.ne_of_gt z6; obtain ⟨hc8, hf8⟩ := bcell hb8; have z7 := (show W.heap.size < w6.heap.size by have := hb8.size; simp at this; omega); have m1 : w3.heap.size ≠ W.heap.size + 1 := (by omega); have m2 : W.heap.size + 1 ≠ w3.heap.size := (by omega); have z8 := hb8.size; simp at z8)))
  · refine exit_world (fun W9 hW9 => ?_)
    have r1 : W9.cell? ⟨w6.heap.size, 1, none⟩ = some (.int .i64 a) := by rw [hW9]; simp [go_sem]
    have hW6 : Below W.heap.size W w6 := Below.trans ((balloc W _).drew) (hb8.mono (by simp <;> omega))
    have r6 := (hW6.cell (p := ⟨w3.heap.size, 1, none⟩) hz).trans c1
    have r0 : W9.cell? ⟨w3.heap.size, 1, none⟩ = some (.int .i64 X) := by rw [hW9, World.cell?_alloc_old _ _ _ (by simp only; omega)]; exact r6
    have hg : w6.heap.size < W9.heap.size := by rw [hW9]; simp <;> omega
    have hz9 : w3.heap.size < W9.heap.size := by rw [hW9]; simp; omega
    have hb9 : Below w.heap.size w W9 := by
      have e8 : Below w.heap.size w w6 := hb5.trans (hW6.mono hb5.size)
      rw [hW9]
      exact btr e8 (balloc _ _)
    clear hW9 q1 q2 q3 hc8 hf8 hb8 n6 n6' n0 n0' m1 m2
    generalize w6.heap.size = g at *
    go_wp2_with (first
      | (go_at_call 15; (with_reducible refine (rint_any a W9).mono ?_); rintro e w10 ⟨rfl, hb10⟩)
      | (go_at_call 15; (with_reducible refine (rint_any b w10).mono ?_); rintro e w11 ⟨rfl, hb11⟩)
      | (go_at_call 14; (with_reducible refine (B3.out w11).mono ?_); rintro e w12 ⟨rfl, hb12⟩; have hbA := btr (btr hb10 hb11) hb12; have p0 := (hbA.cell (p := ⟨w3.heap.size, 1, none⟩) hz9).trans r0; have p1 := (hbA.cell (p := ⟨g, 1, none⟩) hg).trans r1; have z0 := Nat.lt_of_lt_of_le hz9 hbA.size; have z1 := Nat.lt_of_lt_of_le hg hbA.size; have hbC := btr hb9 hbA; clear hb10 hb11 hb12 hbA r0 r1 hb9 hz9 hg)
      | (go_at_call 15; (with_reducible refine (rint_any a _).mono ?_); rintro e w13 ⟨rfl, hb13⟩)
      | (go_at_call 15; (with_reducible refine (rint_any b w13).mono ?_); rintro e w14 ⟨rfl, hb14⟩)
      | (go_at_call 14; (with_reducible refine (B4.out w14).mono ?_); rintro e w15 ⟨rfl, hb15⟩; have hbB := btr (btr hb13 hb14) hb15; have p2 := (hbB.cell (p := ⟨w3.heap.size, 1, none⟩) (by simp; omega)).trans ((World.cell?_alloc_old _ _ _ (by simp only; omega)).trans p0); have p3 := (hbB.cell (p := ⟨g, 1, none⟩) (by simp; omega)).trans ((World.cell?_alloc_old _ _ _ (by simp only; omega)).trans p1); have p4 := (hbB.cell (p := ⟨w12.heap.size, 1, none⟩) (by simp)).trans (by simp [go_sem]; rfl); have z3 := (show g < w15.heap.size by have := hbB.size; simp at this; omega); have z4 := (show w3.heap.size < w15.heap.size by have := hbB.size; simp at this; omega); have z2 := (show w12.heap.size < w15.heap.size by have := hbB.size; simp at this; omega))
      | (go_at_call 10; (with_reducible refine (K.out _ (btr hbC (btr (bafter hbB) (balloc _ _)))).mono ?_); rintro e w16 ⟨rfl, hb16⟩))
    go_ret
    exact ⟨rfl, btr (btr hbC (btr (bafter hbB) (balloc _ _))) hb16⟩
  · refine exit_world (fun W9 hW9 => ?_)
    have r1 : W9.cell? ⟨(W.heap.size + 1), 1, none⟩ = some (.int .i64 a) := by rw [hW9]; exact (set3_in _ _ _ ((hc8 _ _ (by simp)).trans (by simp [go_sem]; rfl)) ((hc8 _ _ (by simp)).trans (by simp [go_sem]; rfl)) ((hc8 _ _ (by simp)).trans (by simp [go_sem]; rfl))).2.1
    have hW6 : Below W.heap.size W w6 := Below.trans ((balloc2 W _ _).drew) (hb8.mono (by simp <;> omega))
    have r6 := (hW6.cell (p := ⟨w3.heap.size, 1, none⟩) hz).trans c1
    have r0 : W9.cell? ⟨w3.heap.size, 1, none⟩ = some (.int .i64 X) := by rw [hW9, set3_out _ _ _ (by omega)]; exact r6
    have hg : (W.heap.size + 1) < W9.heap.size := by rw [hW9]; simp <;> omega
    have hz9 : w3.heap.size < W9.heap.size := by rw [hW9]; simp; omega
    have hb9 : Below w.heap.size w W9 := by
      have e8 : Below w.heap.size w w6 := hb5.trans (hW6.mono hb5.size)
      rw [hW9]
      exact b3 e8 (by have := hb5.size; omega) _ _ _
    clear hW9 q1 q2 q3 hc8 hf8 hb8 n6 n6' n0 n0' m1 m2
    generalize (W.heap.size + 1) = g at *
    go_wp2_with (first
      | (go_at_call 15; (with_reducible refine (rint_any a W9).mono ?_); rintro e w10 ⟨rfl, hb10⟩)
      | (go_at_call 15; (with_reducible refine (rint_any b w10).mono ?_); rintro e w11 ⟨rfl, hb11⟩)
      | (go_at_call 14; (with_reducible refine (B3.out w11).mono ?_); rintro e w12 ⟨rfl, hb12⟩; have hbA := btr (btr hb10 hb11) hb12; have p0 := (hbA.cell (p := ⟨w3.heap.size, 1, none⟩) hz9).trans r0; have p1 := (hbA.cell (p := ⟨g, 1, none⟩) hg).trans r1; have z0 := Nat.lt_of_lt_of_le hz9 hbA.size; have z1 := Nat.lt_of_lt_of_le hg hbA.size; have hbC := btr hb9 hbA; clear hb10 hb11 hb12 hbA r0 r1 hb9 hz9 hg)
      | (go_at_call 15; (with_reducible refine (rint_any a _).mono ?_); rintro e w13 ⟨rfl, hb13⟩)
      | (go_at_call 15; (with_reducible refine (rint_any b w13).mono ?_); rintro e w14 ⟨rfl, hb14⟩)
      | (go_at_call 14; (with_reducible refine (B4.out w14).mono ?_); rintro e w15 ⟨rfl, hb15⟩; have hbB := btr (btr hb13 hb14) hb15; have p2 := (hbB.cell (p := ⟨w3.heap.size, 1, none⟩) (by simp; omega)).trans ((World.cell?_alloc_old _ _ _ (by simp only; omega)).trans p0); have p3 := (hbB.cell (p := ⟨g, 1, none⟩) (by simp; omega)).trans ((World.cell?_alloc_old _ _ _ (by simp only; omega)).trans p1); have p4 := (hbB.cell (p := ⟨w12.heap.size, 1, none⟩) (by simp)).trans (by simp [go_sem]; rfl); have z3 := (show g < w15.heap.size by have := hbB.size; simp at this; omega); have z4 := (show w3.heap.size < w15.heap.size by have := hbB.size; simp at this; omega); have z2 := (show w12.heap.size < w15.heap.size by have := hbB.size; simp at this; omega))
      | (go_at_call 10; (with_reducible refine (K.out _ (btr hbC (btr (bafter hbB) (balloc _ _)))).mono ?_); rintro e w16 ⟨rfl, hb16⟩))
    go_ret
    exact ⟨rfl, btr (btr hbC (btr (bafter hbB) (balloc _ _))) hb16⟩
  · refine exit_world (fun W9 hW9 => ?_)
    have r1 : W9.cell? ⟨W.heap.size, 1, none⟩ = some (.int .i64 a) := by rw [hW9]; exact (set3_in _ _ _ ((q2 _).trans (by simp [go_sem]; rfl)) ((q2 _).trans (by simp [go_sem]; rfl)) ((q2 _).trans (by simp [go_sem]; rfl))).2.1
    have hW6 : Below W.heap.size W w6 := Below.trans ((balloc2 W _ _).drew) (hb8.mono (by simp <;> omega))
    have r6 := (hW6.cell (p := ⟨w3.heap.size, 1, none⟩) hz).trans c1
    have r0 : W9.cell? ⟨w3.heap.size, 1, none⟩ = some (.int .i64 X) := by rw [hW9, set3_out _ _ _ (by omega)]; exact r6
    have hg : W.heap.size < W9.heap.size := by rw [hW9]; simp <;> omega
    have hz9 : w3.heap.size < W9.heap.size := by rw [hW9]; simp; omega
    have hb9 : Below w.heap.size w W9 := by
      have e8 : Below w.heap.size w w6 := hb5.trans (hW6.mono hb5.size)
      rw [hW9]
      exact b3 e8 (by have := hb5.size; omega) _ _ _
    clear hW9 q1 q2 q3 hc8 hf8 hb8 n6 n6' n0 n0' m1 m2
    generalize W.heap.size = g at *
    go_wp2_with (first
      | (go_at_call 15; (with_reducible refine (rint_any a W9).mono ?_); rintro e w10 ⟨rfl, hb10⟩)
      | (go_at_call 15; (with_reducible refine (rint_any b w10).mono ?_); rintro e w11 ⟨rfl, hb11⟩)
      | (go_at_call 14; (with_reducible refine (B3.out w11).mono ?_); rintro e w12 ⟨rfl, hb12⟩; have hbA := btr (btr hb10 hb11) hb12; have p0 := (hbA.cell (p := ⟨w3.heap.size, 1, none⟩) hz9).trans r0; have p1 := (hbA.cell (p := ⟨g, 1, none⟩) hg).trans r1; have z0 := Nat.lt_of_lt_of_le hz9 hbA.size; have z1 := Nat.lt_of_lt_of_le hg hbA.size; have hbC := btr hb9 hbA; clear hb10 hb11 hb12 hbA r0 r1 hb9 hz9 hg)
      | (go_at_call 15; (with_reducible refine (rint_any a _).mono ?_); rintro e w13 ⟨rfl, hb13⟩)
      | (go_at_call 15; (with_reducible refine (rint_any b w13).mono ?_); rintro e w14 ⟨rfl, hb14⟩)
      | (go_at_call 14; (with_reducible refine (B4.out w14).mono ?_); rintro e w15 ⟨rfl, hb15⟩; have hbB := btr (btr hb13 hb14) hb15; have p2 := (hbB.cell (p := ⟨w3.heap.size, 1, none⟩) (by simp; omega)).trans ((World.cell?_alloc_old _ _ _ (by simp only; omega)).trans p0); have p3 := (hbB.cell (p := ⟨g, 1, none⟩) (by simp; omega)).trans ((World.cell?_alloc_old _ _ _ (by simp only; omega)).trans p1); have p4 := (hbB.cell (p := ⟨w12.heap.size, 1, none⟩) (by simp)).trans (by simp [go_sem]; rfl); have z3 := (show g < w15.heap.size by have := hbB.size; simp at this; omega); have z4 := (show w3.heap.size < w15.heap.size by have := hbB.size; simp at this; omega); have z2 := (show w12.heap.size < w15.heap.size by have := hbB.size; simp at this; omega))
      | (go_at_call 10; (with_reducible refine (K.out _ (btr hbC (btr (bafter hbB) (balloc _ _)))).mono ?_); rintro e w16 ⟨rfl, hb16⟩))
    go_ret
    exact ⟨rfl, btr (btr hbC (btr (bafter hbB) (balloc _ _))) hb16⟩
end Go.Proofs.YtbghbfgbpdppeaaGreatDoor
