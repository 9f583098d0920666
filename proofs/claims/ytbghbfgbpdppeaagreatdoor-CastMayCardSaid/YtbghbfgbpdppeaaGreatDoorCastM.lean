
/- The document's Clean of a value that is none. -/
import Derived.Test.YtbghbfgbpdppeaaGreatDoorCastL
namespace Go.Proofs.YtbghbfgbpdppeaaGreatDoor
open Go.ChangeShapes Go.WideShapes Go.ChangeAt Go.RowKit
set_option linter.unusedVariables false

theorem clean_no (k n : Int) (s : ByteArray) (w : World) (h : okB k n s = false) : Calls Tryz.prog 13 #[gv k n s] w fun e w' => e = .returned (tv 0 0) ∧ Below w.heap.size w w' := by
  have C := Lib.hid fun W => by have := rok_any k n s W; rw [h] at this; exact this
  clear h
  go_enter Tryz.func13, Tryz.ntmps13
  go_wp2_with (go_at_call 24; (with_reducible refine (C.out _).mono ?_); rintro e w1 ⟨rfl, hb⟩; obtain ⟨hc, hf⟩ := bcell hb; have hz : w.heap.size + 1 < w1.heap.size := (by have := hb.size; simp at this; omega))
  exact bodyPost_ret (v := tv 0 0) (by simp [results, Tryz.results13, go_sem, hc]) rfl ⟨rfl, b3 (bafter2 hb) (by omega) _ _ _⟩
end Go.Proofs.YtbghbfgbpdppeaaGreatDoor
