
/- CastMay is true of every input: the walk, where the listed variables stand. -/
import Derived.Test.YtbghbfgbpdppeaaGreatDoorCastQ
namespace Go.Proofs.YtbghbfgbpdppeaaGreatDoor
open Go.ChangeShapes Go.WideShapes Go.ChangeAt Go.RowKit Go.Sort
set_option linter.unusedVariables false

set_option maxHeartbeats 1000000 in
set_option maxRecDepth 100000 in
theorem walk_CastMay (a b k n : Int) (s : ByteArray) (wa : (Lit.int .i64 a).wf = true) (wb : (Lit.int .i64 b).wf = true) (wk : (Lit.int .i64 k).wf = true) (wn : (Lit.int .i64 n).wf = true) (ws : s.size ≤ maxLen) (w : World) (hT : TabsX w) :
    Calls Tryz.prog 4 #[.int .i64 a, .int .i64 b, gv k n s] w fun e w' => e = .returned (.bool true) ∧ Below w.heap.size w w' := by
  have hn := fits_wf wn
  have K := Lib.hid (fun W (hb : Below w.heap.size w W) => awake_any W (hT.below hb))
  obtain ⟨j, hj, ea⟩ := and3 a
  obtain ⟨m, hm, eb⟩ := andf b
  obtain ⟨p, hp⟩ : ∃ p, p = m % 3 + 1 := ⟨_, rfl⟩
  have hp1 : 1 ≤ p := by omega
  have hp3 : p ≤ 3 := by omega
  have hpi : (m : Int) % 3 + 1 = (p : Int) := by omega
  have M1 := Lib.hid (fun W => may_any j p hj hp1 hp3 W)
  have M2 := Lib.hid (fun W => rmay_any j p hj hp1 hp3 W)
  have C : Hid (∀ W, Calls Tryz.prog 13 #[gv k n s] W fun e w' => ∃ m t, e = .returned (.agg #[.int .i64 (ck k n s), .int .i64 m, .string t]) ∧ Below W.heap.size W w') := Lib.hid (fun W => clean_any k n s W)
  have T : s.size ≤ 1000 → ck k n s = (j : Int) → Hid (∀ W, Below w.heap.size w W → Calls Tryz.prog 8 #[gv k n s, .int .i64 p] W (ToOk j p W)) := fun h1 h2 => Lib.hid (fun W hb => to_all k n s j p W hn h1 hp1 hp3 hj h2 (hT.below hb))
  have fld : ∀ (c x : Int) (t : ByteArray) W, (Instr.field 24 (.agg #[.int .i64 c, .int .i64 x, .string t]) 0).run Tryz.prog W = .ok (.int .i64 c) W := fun _ _ _ _ => by kernel_rfl
  have hmm : (m : Int) ≤ 65535 := by omega
  have hm0 : 0 ≤ (m : Int) := by omega
  generalize (m : Int) = mm at *
  generalize ck k n s = c at *
  have T2 : s.size ≤ 1000 → c = (j : Int) → Hid (∀ W, Below w.heap.size w W → Calls Tryz.prog 8 #[gv k n s, .int .i64 p] W fun e w' => ∃ a b c er, e = .returned (.tuple #[gv a b c, .int .i64 er]) ∧ (mayB j p = true → er = 0) ∧ Below W.heap.size W w') := T
  clear T
  generalize mayB j p = mb at *
  clear wa wb wk wn hT hn hp hm
  have T3 : Hid (s.size ≤ 1000 → c = (j : Int) → Hid (∀ W, Below w.heap.size w W → Calls Tryz.prog 8 #[gv k n s, .int .i64 p] W fun e w' => ∃ a b c er, e = .returned (.tuple #[gv a b c, .int .i64 er]) ∧ (mb = true → er = 0) ∧ Below W.heap.size W w')) := Lib.hid T2
  clear T2
  by_cases hsz : s.size ≤ 100
  · have hsi : (s.size : Int) ≤ 100 := by omega
    by_cases hcj : c = (j : Int)
    · have T4 := T3.out (by omega) hcj
      subst hcj
      cases mb
      · have T5 : Hid (∀ W, Below w.heap.size w W → Calls Tryz.prog 8 #[gv k n s, .int .i64 p] W fun e w' => ∃ a b c er, e = .returned (.tuple #[gv a b c, .int .i64 er]) ∧ Below W.heap.size W w') := Lib.hid (fun W hb => (T4.out W hb).mono fun e w' ⟨a, b, c, er, he, _, hb⟩ => ⟨a, b, c, er, he, hb⟩)
        clear T4 T3
        go_enter Tryz.func4, Tryz.ntmps4
        go_wp2_with (first
          | (go_at_call 11; (with_reducible refine (M1.out _).mono ?_); rintro e w1 ⟨rfl, rfl⟩)
          | (go_at_call 12; (with_reducible refine (M2.out _).mono ?_); rintro e w2 ⟨rfl, rfl⟩)
          | (go_at_call 13; (with_reducible refine (C.out _).mono ?_); rintro e w3 ⟨x, t, rfl, hb3⟩; have hz3 := (show w.heap.size < w3.heap.size by have := hb3.size; simp at this; omega); have g0 := fun o => hb3.cell (p := ⟨w.heap.size, o, none⟩) (by simp); have g1 := fun o => hb3.frozen (p := ⟨w.heap.size, o, none⟩) (by simp))
          | (go_at_call 8; (with_reducible refine (T5.out _ (bafter hb3)).mono ?_); rintro e w4 ⟨a4, b4, c4, er, rfl, hb4⟩)
          | (go_at_call 10; (with_reducible refine (K.out _ (btr (btr (bafter hb3) hb4) (balloc _ _))).mono ?_); rintro e w9 ⟨rfl, hb9⟩))
        go_ret
        exact ⟨rfl, btr (btr (btr (bafter hb3) hb4) (balloc _ _)) hb9⟩
      · have T5 : Hid (∀ W, Below w.heap.size w W → Calls Tryz.prog 8 #[gv k n s, .int .i64 p] W fun e w' => ∃ a b c, e = .returned (.tuple #[gv a b c, .int .i64 0]) ∧ Below W.heap.size W w') := Lib.hid (fun W hb => (T4.out W hb).mono fun e w' ⟨a, b, c, er, he, hr, hb⟩ => ⟨a, b, c, by rw [he, hr rfl], hb⟩)
        clear T4 T3
        go_enter Tryz.func4, Tryz.ntmps4
        go_wp2_with (first
          | (go_at_call 11; (with_reducible refine (M1.out _).mono ?_); rintro e w1 ⟨rfl, rfl⟩)
          | (go_at_call 12; (with_reducible refine (M2.out _).mono ?_); rintro e w2 ⟨rfl, rfl⟩)
          | (go_at_call 13; (with_reducible refine (C.out _).mono ?_); rintro e w3 ⟨x, t, rfl, hb3⟩; have hz3 := (show w.heap.size < w3.heap.size by have := hb3.size; simp at this; omega); have g0 := fun o => hb3.cell (p := ⟨w.heap.size, o, none⟩) (by simp); have g1 := fun o => hb3.frozen (p := ⟨w.heap.size, o, none⟩) (by simp))
          | (go_at_call 8; (with_reducible refine (T5.out _ (bafter hb3)).mono ?_); rintro e w4 ⟨a4, b4, c4, rfl, hb4⟩)
          | (go_at_call 10; (with_reducible refine (K.out _ (btr (btr (bafter hb3) hb4) (balloc _ _))).mono ?_); rintro e w9 ⟨rfl, hb9⟩))
        go_ret
        exact ⟨rfl, btr (btr (btr (bafter hb3) hb4) (balloc _ _)) hb9⟩
    · have hcj' : (c != (j : Int)) = true := by simpa using hcj
      clear hcj T3
      go_enter Tryz.func4, Tryz.ntmps4
      go_wp2_with (first
        | (go_at_call 11; (with_reducible refine (M1.out _).mono ?_); rintro e w1 ⟨rfl, rfl⟩)
        | (go_at_call 12; (with_reducible refine (M2.out _).mono ?_); rintro e w2 ⟨rfl, rfl⟩)
        | (go_at_call 13; (with_reducible refine (C.out _).mono ?_); rintro e w3 ⟨x, t, rfl, hb3⟩)
        | (go_at_call 10; (with_reducible refine (K.out _ (bafter hb3)).mono ?_); rintro e w9 ⟨rfl, hb9⟩))
      go_ret
      exact ⟨rfl, btr (bafter hb3) hb9⟩
  · have hsi : ¬ (s.size : Int) ≤ 100 := by omega
    go_enter Tryz.func4, Tryz.ntmps4
    go_wp2_with (first
      | (go_at_call 11; (with_reducible refine (M1.out _).mono ?_); rintro e w1 ⟨rfl, rfl⟩)
      | (go_at_call 12; (with_reducible refine (M2.out _).mono ?_); rintro e w2 ⟨rfl, rfl⟩)
      | (go_at_call 10; (with_reducible refine (K.out _ (balloc _ _)).mono ?_); rintro e w9 ⟨rfl, hb9⟩))
    go_ret
    exact ⟨rfl, btr (balloc _ _) hb9⟩
end Go.Proofs.YtbghbfgbpdppeaaGreatDoor
