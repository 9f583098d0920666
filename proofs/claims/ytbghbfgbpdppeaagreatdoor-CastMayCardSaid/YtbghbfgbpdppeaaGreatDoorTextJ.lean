
/- A sign's bytes by the document (umlautref1.One), signs' bytes one behind the other (Join), whether a number is a sign (IsSign). -/
import Derived.Test.YtbghbfgbpdppeaaGreatDoorTextH
namespace Go.Proofs.YtbghbfgbpdppeaaGreatDoor.Tx
open Go.ChangeShapes Go.WideShapes Go.ChangeAt Go.RowKit Go.Lib
set_option linter.unusedVariables false

theorem conv_nums (W : World) (xs : List Int) (n : Nat) (hn : xs.length = n) : (convert 87 9 (.slice (some ⟨W.heap.size, 0, none⟩) n n)).run Tryz.prog (W.alloc (.cells (xs.map (Value.int .u8)).toArray 5)) = .ok (.string (strOfNums xs)) (W.alloc (.cells (xs.map (Value.int .u8)).toArray 5)) :=
  run_convert_bytes_arg _ 87 5 Tryz.underlying87 Tryz.underlying5 W.heap.size 0 n n xs hn (fun i hi => by
    have hi2 : i < xs.length := by omega
    rw [Nat.zero_add, World.cell?_alloc_at _ _ _ _ rfl]
    simp [List.getD, hi2]) 9 Tryz.underlying9
theorem num1 {z : Int} {a : Nat} (h : z = a) : UInt8.ofNat z.toNat = UInt8.ofNat a := by rw [h]; simp
end Go.Proofs.YtbghbfgbpdppeaaGreatDoor.Tx
