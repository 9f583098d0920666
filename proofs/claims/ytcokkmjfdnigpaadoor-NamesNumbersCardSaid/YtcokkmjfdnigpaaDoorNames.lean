/- NamesNumbers: the list of names and numbers as the call makes it. No condition. -/
import Derived.Test.YtcokkmjfdnigpaaDoorRows
import Derived.WalkKit
import Derived.ProofKit
import Derived.OpenShut
import Derived.Outline
import Derived.WalkLawsBesides
import Derived.BigQuiet
import Derived.Lib.Hide
import Derived.Great.Walk
namespace Go.Proofs.YtcokkmjfdnigpaaDoor
open Go.ChangeShapes Go.WideShapes Go.ChangeAt Go.RowKit

/-- operations one behind the other, each of which yields a value -/
def steps (P : Program) : List Oper → Act → World → Option (Act × World)
  | [], a, w => some (a, w)
  | o :: rest, a, w =>
    match o.guard, (execOp a.eval o).run P w with
    | .none, .ok (.value v) w1 => steps P rest (a.put o.dst v) w1
    | _, _ => .none

theorem wpList_steps {P : Program} {ops : Array Oper} {Q : Exit → Act → World → Prop} : ∀ (l : List Oper) (a : Act) (w : World) {a' : Act} {w' : World},
    steps P l a w = some (a', w') → Q .normal a' w' → wpList P ops Q l a w
  | [], a, w, a', w', h, hq => by
    simp only [steps, Option.some.injEq, Prod.mk.injEq] at h
    obtain ⟨rfl, rfl⟩ := h
    exact hq
  | o :: rest, a, w, a', w', h, hq => by
    unfold steps at h
    split at h
    · rename_i hg hr
      refine wpList_plain hg fun K hK => ?_
      unfold Oper.wp
      rw [hr, Oper.upon_value]
      exact hK _ _ (wpList_steps rest _ _ h hq)
    · cases h

theorem wpList_stepsTo {P : Program} {ops : Array Oper} {Q : Exit → Act → World → Prop} {l : List Oper} {a : Act} {w : World} (t : Tmp) (v : Value) (w' : World)
    (h : (steps P l a w).map (fun x => (x.1.tmps.getD t undef, x.1.defers, x.2)) = some (v, [], w'))
    (hk : ∀ a' : Act, a'.tmps.getD t undef = v → a'.defers = [] → Q .normal a' w') : wpList P ops Q l a w := by
  cases hs : steps P l a w with
  | none => rw [hs] at h; cases h
  | some x =>
    obtain ⟨a', w1⟩ := x
    rw [hs] at h
    simp only [Option.map_some, Option.some.injEq, Prod.mk.injEq] at h
    obtain ⟨h1, h2, rfl⟩ := h
    exact wpList_steps l a w hs (hk a' h1 h2)

def numsL : List Int := [0, 1, 2, 3, 4, 10, 11, 12, 13, 14, 15, 16, 17, 18, 19, 20, 21, 22, 23, 60, 64, 65, 1114367, 500, 8, 40, 11, 4000, 24, 16, 8, 8, 16, 4, 1, 2, 4, 8, 16, 31, 1000000, 100000, 1, 2, 3, 4, 5, 1, 2, 3, 0, 1, 2, 3, 1, 2, 3, 4, 5, 6, 7, 8, 9, 10, 11, 12, 13, 14, 15, 16, 17, 18, 19, 20, 21, 22, 1, 2, 3, 4, 5, 0, 1, 2, 3, 4, 5, 6, 7, 8, 9, 10, 11, 12, 13, 14, 1, 2, 3, 4, 5, 6, 7, 8, 9, 0, 1, 2, 3]
def pairCells (l : List Int) : List Value := (l.map fun n => [Value.int .i64 n, Value.int .i64 n]).flatten

set_option maxRecDepth 100000 in
theorem all_any (w : World) : Calls Tryd.prog 24 #[] w fun e w' => e = .returned (.slice (some ⟨w.heap.size, 0, none⟩) 109 109) ∧ w' = w.alloc (.cells (pairCells numsL).toArray 45) := by
  go_enter Tryd.func24, Tryd.ntmps24
  refine wp_seq ?_
  refine wp_region_lit ?_
  refine Great.wpList_runTo rfl (some 0) rfl (.slice none 0 0) w (by kernel_rfl) ?_
  refine wpList_nil ?_
  refine wp_seq ?_
  refine wp_region_lit ?_
  refine wpList_stepsTo 0 (.slice (some ⟨w.heap.size, 0, none⟩) 109 109) (w.alloc (.cells (pairCells numsL).toArray 45)) (by kernel_rfl) ?_
  intro a' h0 hd
  refine wp_ret ?_
  exact bodyPost_ret (v := .slice (some ⟨w.heap.size, 0, none⟩) 109 109) (by simp only [results, Tryd.results24]; simp [go_sem]; simpa using h0) hd ⟨rfl, rfl⟩
end Go.Proofs.YtcokkmjfdnigpaaDoor
