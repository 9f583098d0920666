
/- The look of layer 3 (awake) is true; the document's word of an element. -/
import Derived.Test.YtbghbfgbpdppeaaDoorElemG
namespace Go.Proofs.YtbghbfgbpdppeaaDoor
open Go.ChangeShapes Go.WideShapes Go.ChangeAt Go.RowKit
set_option linter.unusedVariables false

set_option maxRecDepth 100000 in
theorem awake_elem (w : World) (hT : TzT w) :
    Calls Tryd.prog 22 #[] w fun e w' => e = .returned (.bool true) ∧ Below w.heap.size w w' := by
  have M := Lib.hid (fun W => make_awake W)
  have T : Hid (∀ W, Below w.heap.size w W → Calls Tryd.prog 28 #[.int .u32 16785412] W fun e w' => e = .returned (.string ⟨#[91, 48, 49, 48, 48, 46, 50, 48, 46, 48, 50, 93]⟩) ∧ Below W.heap.size W w') := Lib.hid (fun W hb => by
    have h := text_elem 16785412 W (by decide) (hT.below hb)
    have e : txt 16785412 = [91, 48, 49, 48, 48, 46, 50, 48, 46, 48, 50, 93] := by decide +kernel
    rw [e] at h
    exact h)
  have W1 : Hid (∀ W, Calls Tryd.prog 24 #[.int .u32 16785412, .int .i64 1] W fun e w' => e = .returned (.int .i64 256) ∧ W = w') := Lib.hid (fun W => weight_any 16785412 1 W (by decide))
  clear hT
  go_enter Tryd.func22, Tryd.ntmps22
  go_wp2_with (first
    | (go_at_call 23; (with_reducible refine (M.out _).mono ?_); rintro e w' ⟨rfl, rfl⟩)
    | (go_at_call 28; (with_reducible refine (T.out _ (Below.refl _ _)).mono ?_); rintro e w1 ⟨rfl, hb1⟩)
    | (go_at_call 24; (with_reducible refine (W1.out _).mono ?_); rintro e w' ⟨rfl, rfl⟩))
  go_ret
  exact ⟨rfl, hb1⟩
end Go.Proofs.YtbghbfgbpdppeaaDoor
