
/- ElemWords is true of every input: the walk, where the listed variables stand. -/
import Derived.Test.YtbghbfgbpdppeaaDoorElemY
import Derived.Test.YtbghbfgbpdppeaaDoorElemChangesWalk
namespace Go.Proofs.YtbghbfgbpdppeaaDoor
open Go.ChangeShapes Go.WideShapes Go.ChangeAt Go.RowKit
set_option linter.unusedVariables false

set_option maxHeartbeats 1000000 in
set_option maxRecDepth 100000 in
theorem wordsI (p s t x : Int) (v k : Bool) (T : ByteArray) (w : World)
    (O : Hid (∀ W, Calls Tryd.prog 20 #[.int .u32 x] W fun e w' => e = .returned (ev p s t v) ∧ Below W.heap.size W w'))
    (G : Hid (∀ W l r, (l = 1 ∧ r = p ∨ l = 2 ∧ r = s ∨ l = 3 ∧ r = t ∨ l = 0 ∧ r = 0 ∨ l = 4 ∧ r = 0) → Calls Tryd.prog 24 #[.int .u32 x, .int .i64 l] W fun e w' => e = .returned (.int .i64 r) ∧ Below W.heap.size W w'))
    (V : Hid (∀ W, Calls Tryd.prog 25 #[.int .u32 x] W fun e w' => e = .returned (.bool v) ∧ Below W.heap.size W w'))
    (K1 : Hid (∀ W, Calls Tryd.prog 26 #[.int .u32 x] W fun e w' => e = .returned (.bool k) ∧ Below W.heap.size W w'))
    (K2 : Hid (∀ W, Calls Tryd.prog 27 #[ev p s t v] W fun e w' => e = .returned (.bool k) ∧ Below W.heap.size W w'))
    (T1 : Hid (∀ W, Below w.heap.size w W → Calls Tryd.prog 28 #[.int .u32 x] W fun e w' => e = .returned (.string T) ∧ Below W.heap.size W w'))
    (T2 : Hid (∀ W, Calls Tryd.prog 29 #[ev p s t v] W fun e w' => e = .returned (.string T) ∧ Below W.heap.size W w'))
    (Q : Hid (∀ W, Below w.heap.size w W → Calls Tryd.prog 30 #[.string T] W fun e w' => e = .returned (.tuple #[.int .u32 x, .int .i64 0]) ∧ Below W.heap.size W w'))
    (K : Hid (∀ W, Below w.heap.size w W → Calls Tryd.prog 22 #[] W fun e w' => e = .returned (.bool true) ∧ Below W.heap.size W w')) :
    Calls Tryd.prog 9 #[.int .u32 x] w fun e w' => e = .returned (.bool true) ∧ Below w.heap.size w w' := by
  go_enter Tryd.func9, Tryd.ntmps9
  go_wp2_with (first
    | (go_at_call 20; (with_reducible refine (O.out _).mono ?_); rintro e w1 ⟨rfl, hb1⟩; have hz1 := hb1.size)
    | (go_at_call 28; (with_reducible refine (T1.out _ (by first | exact hb1 | exact (hb1.alloc hz1 _))).mono ?_); rintro e w2 ⟨rfl, hb2⟩)
    | (go_at_call 30; (with_reducible refine (Q.out _ (by first | exact btr hb1 hb2 | exact btr (hb1.alloc hz1 _) hb2)).mono ?_); rintro e w3 ⟨rfl, hb3⟩))
  have hz2 := hb2.size
  rw [World.size_alloc] at hz2
  have hb : Below w.heap.size w w3 := btr (btr (hb1.alloc hz1 _) hb2) hb3
  have cc : ∀ j u, (w1.alloc (Obj.cells #[.int .i64 p, .int .i64 s, .int .i64 t, .bool v] 50)).cell? ⟨w1.heap.size, j, none⟩ = some u → w3.cell? ⟨w1.heap.size, j, none⟩ = some u := fun j u hj =>
    (hb3.cell (p := ⟨w1.heap.size, j, none⟩) (by simp only; omega)).trans ((hb2.cell (p := ⟨w1.heap.size, j, none⟩) (by simp)).trans hj)
  have c0 := cell_regrown (cc 0 (.int .i64 p) (by simp))
  have c1 := cell_regrown (cc 1 (.int .i64 s) (by simp))
  have c2 := cell_regrown (cc 2 (.int .i64 t) (by simp))
  have c3 := cell_regrown (cc 3 (.bool v) (by simp))
  have hbr := fun d os => hb.trans ((below_regrown w3 d os).mono hb.size)
  refine wp_region_quiet_below (by kernel_rfl) (by kernel_rfl) ?_
  repeat (quiet_step (first
    | (with_reducible exact Calls.regrown_of (K2.out _))
    | (with_reducible exact Calls.regrown_of (T1.out _ (hbr _ _)))
    | (with_reducible exact Calls.regrown_of (T2.out _))
    | (with_reducible exact Calls.regrown_of (G.out _ 1 p (by simp)))
    | (with_reducible exact Calls.regrown_of (G.out _ 2 s (by simp)))
    | (with_reducible exact Calls.regrown_of (G.out _ 3 t (by simp)))
    | (with_reducible exact Calls.regrown_of (G.out _ 0 0 (by simp)))
    | (with_reducible exact Calls.regrown_of (G.out _ 4 0 (by simp)))
    | (with_reducible exact Calls.regrown_of (V.out _))
    | (with_reducible exact Calls.regrown_of (K1.out _))
    | (with_reducible exact Calls.regrown_of (K.out _ (hbr _ _)))))
  refine wpQuiet_nil ?_
  intro _ hw'
  obtain ⟨⟨dq, osq⟩, hw''⟩ := hw'
  subst hw''
  have hb4 := below_regrown w3 dq osq
  generalize Sort.grow (redrawn w3 dq) osq = w4 at *
  go_wp2
  go_ret
  exact ⟨rfl, btr hb hb4⟩
theorem q_of {W w' : World} {e : Ending} {r : Value} (h : e = .returned r ∧ W = w') : e = .returned r ∧ Below W.heap.size W w' := ⟨h.1, h.2 ▸ Below.refl _ _⟩
theorem walk_ElemWords (a : Int) (wa : (Lit.int .u32 a).wf = true) (w : World) (hT : TabsW w) :
    Calls Tryd.prog 9 #[.int .u32 a] w fun e w' => e = .returned (.bool true) ∧ Below w.heap.size w w' := by
  obtain ⟨x, rfl, hx⟩ := nat_of_u32 wa
  refine wordsI (wP x : Nat) (wS x : Nat) (wT x : Nat) x (wV x) (okW x) ⟨(txt x).toArray⟩ w (Lib.hid (fun W => of_any x W hx)) (Lib.hid (fun W l r h => ?_))
    (Lib.hid (fun W => (variable_any x W hx).mono fun _ _ h => q_of h)) (Lib.hid (fun W => (eok_any x W hx).mono fun _ _ h => q_of h)) (Lib.hid (fun W => rok_any x W))
    (Lib.hid (fun W hb => text_elem x W hx (hT.below hb).1)) (Lib.hid (fun W => rtext_any x W hx)) (Lib.hid (fun W hb => ?_)) (Lib.hid (fun W hb => awake_elem W (hT.below hb).1))
  · have h2 : r = (wtV x l : Nat) := by
      rcases h with ⟨rfl, rfl⟩ | ⟨rfl, rfl⟩ | ⟨rfl, rfl⟩ | ⟨rfl, rfl⟩ | ⟨rfl, rfl⟩ <;> rfl
    rw [h2]
    exact (weight_any x l W hx).mono fun _ _ h => q_of h
  · have hl : (⟨(txt x).toArray⟩ : ByteArray).size ≤ 100000 := by
      have := txt_len x
      show (txt x).toArray.size ≤ 100000
      simp
      omega
    exact (parse_all ⟨(txt x).toArray⟩ W hl (hT.below hb)).mono fun e w' ⟨hA, hb2⟩ => ⟨hA.own x hx rfl, hb2⟩
end Go.Proofs.YtbghbfgbpdppeaaDoor
