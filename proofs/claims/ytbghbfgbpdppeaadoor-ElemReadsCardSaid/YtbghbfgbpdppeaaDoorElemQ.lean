
/- The document's hex of a number: its digits. -/
import Derived.Test.YtbghbfgbpdppeaaDoorElemP
import Derived.Test.YtbghbfgbpdppeaaDoorElemF
namespace Go.Proofs.YtbghbfgbpdppeaaDoor
open Go.ChangeShapes Go.WideShapes Go.ChangeAt Go.RowKit
set_option linter.unusedVariables false

theorem hxT (k n : Nat) : (⟨#[hxd (n / 16 ^ k % 16)]⟩ : ByteArray) ++ ⟨(hxn k n).toArray⟩ = ⟨(hxn (k + 1) n).toArray⟩ := by
  rw [hxn_head]
  apply bytes_inj
  simp [ByteArray.data_append]
theorem dgI (u k : Nat) : bits .and .i64 ((u : Int) / (16 ^ k : Nat)) 15 = ((u / 16 ^ k % 16 : Nat) : Int) := by
  have h := i64_mask ((u : Int) / (16 ^ k : Nat)) 4 (by decide)
  rw [show ((2 ^ 4 - 1 : Nat) : Int) = 15 from rfl, show ((2 ^ 4 : Nat) : Int) = 16 from rfl] at h
  rw [h]
  omega
theorem rhex_2 (u : Nat) (w : World) (hu : u < 256) :
    Calls Tryd.prog 50 #[.int .i64 u, .int .i64 2] w fun e w' => e = .returned (.string ⟨(hxn 2 u).toArray⟩) ∧ w = w' :=
  rhexI2 u _ _ _ _ _ _ w (by omega) (by omega)
    (by have h := dgI u 0; simpa using h) (by have h := sd (u % 16) (by omega); exact h) (Lib.hid (by have h := hxT 0 u; rw [show u / 16 ^ 0 % 16 = u % 16 by simp] at h; exact h)) rfl (hxs 1 u) (by omega) (by omega)
    (dgI u 1) (sd (u / 16 ^ 1 % 16) (Nat.mod_lt _ (by decide))) (Lib.hid (hxT 1 u)) rfl (hxs 2 u) (by omega) (by omega)
end Go.Proofs.YtbghbfgbpdppeaaDoor
