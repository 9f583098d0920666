
/- The look of the laws of layer 13 (awake) is true where the listed variables stand. -/
import Derived.Test.YtbghbfgbpdppeaaGreatDoorCastE
namespace Go.Proofs.YtbghbfgbpdppeaaGreatDoor
open Go.ChangeShapes Go.WideShapes Go.ChangeAt Go.RowKit
set_option linter.unusedVariables false

set_option maxHeartbeats 400000 in
set_option maxRecDepth 100000 in
theorem awake_any (w : World) (hT : TabsX w) :
    Calls Tryz.prog 10 #[] w fun e w' => e = .returned (.bool true) ∧ Below w.heap.size w w' := by
  have C := Lib.hid (fun W (hb : Below w.heap.size w W) => to_007 W (hT.below hb))
  clear hT
  go_enter Tryz.func10, Tryz.ntmps10
  go_wp2_with (first
    | (go_at_call 9; (with_reducible refine (rvtext_any _ _).mono ?_); rintro e w1 ⟨rfl, hb1⟩)
    | (go_at_call 8; (with_reducible refine (C.out w1 hb1).mono ?_); rintro e w2 ⟨rfl, hb2⟩)
    | (go_at_call 15; (with_reducible refine (rint_any 1 _).mono ?_); rintro e w3 ⟨rfl, hb3⟩)
    | (go_at_call 15; (with_reducible refine (rint_any 64 _).mono ?_); rintro e w4 ⟨rfl, hb4⟩)
    | (go_at_call 14; (with_reducible refine (bin_12 9 _).mono ?_); rintro e w5 ⟨rfl, hb5⟩; have hb6 := btr (btr hb3 hb4) hb5; have g0 := fun o => hb6.cell (p := ⟨w2.heap.size, o, none⟩) (by simp); have hz := (show w2.heap.size < w5.heap.size by have := hb6.size; simp at this; omega))
    | (go_at_call 11; (with_reducible refine (may_23 _).mono ?_); rintro e w6 ⟨rfl, rfl⟩))
  go_ret
  exact ⟨rfl, btr (btr (btr hb1 hb2) (bafter hb6)) (balloc _ _)⟩
end Go.Proofs.YtbghbfgbpdppeaaGreatDoor
