
/- What cast.To makes of a number's text with blanks about it and noughts ahead, and of the same with a letter behind. -/
import Derived.Test.YtbghbfgbpdppeaaGreatDoorCastE
import Derived.Test.YtbghbfgbpdppeaaGreatDoorCastG
import Derived.Test.YtbghbfgbpdppeaaGreatDoorCastI
import Derived.Lib.IndexBytes
namespace Go.Proofs.YtbghbfgbpdppeaaGreatDoor
open Go.ChangeShapes Go.WideShapes Go.ChangeAt Go.RowKit
set_option linter.unusedVariables false

theorem and7 (x : Int) : ∃ k : Nat, k ≤ 7 ∧ bits .and .i64 x 7 = (k : Int) := by
  refine ⟨w2n x &&& 7, Nat.and_le_right, ?_⟩
  rw [and_n]
  have h7 : w2n 7 = 7 := by decide +kernel
  rw [h7]
  have := Nat.and_le_right (n := w2n x) (m := 7)
  generalize w2n x &&& 7 = k at *
  unfold wrap64
  omega
theorem bl_app (a b : ByteArray) : bl (a ++ b) = bl a ++ bl b := by
  simp [bl, ByteArray.data_append]
theorem sz_app (a b : ByteArray) : (a ++ b).size = a.size + b.size := by
  have h := congrArg List.length (bl_app a b)
  rw [List.length_append, bl_len, bl_len, bl_len] at h
  exact h
theorem sz_l (l : List UInt8) : (ByteArray.mk l.toArray).size = l.length := bl_len ⟨l.toArray⟩ ▸ rfl
theorem bl_lit (l : List UInt8) : bl ⟨l.toArray⟩ = l := rfl

theorem ext_l (S : List UInt8) : (ByteArray.mk S.toArray).extract 1 S.length = ByteArray.mk (S.drop 1).toArray := by
  have h := Lib.extract_to_end ⟨S.toArray⟩ 1
  rw [bszl] at h
  have e : bl ((ByteArray.mk S.toArray).extract 1 S.length) = S.drop 1 := h
  generalize (ByteArray.mk S.toArray).extract 1 S.length = X at *
  obtain ⟨d⟩ := X
  have : d.toList = S.drop 1 := e
  rw [← this]
theorem rounds_pre (n : Int) (tc : ByteArray) (A N B : Nat) (w : World) (hx : fits n = true) (hT : TabsX w) (htB : bl tc = bks A ++ core n N ++ bks B) (hts : tc.size ≤ 43) :
    (∀ W, Below w.heap.size w W → Calls Tryz.prog 8 #[gv 3 0 tc, .int .i64 2] W fun e w' => e = .returned (.tuple #[tv 2 n, .int .i64 0]) ∧ Below W.heap.size W w') ∧
    (∀ W, Below w.heap.size w W → Calls Tryz.prog 8 #[gv 3 0 (tc ++ { data := #[120] }), .int .i64 2] W fun e w' => e = .returned (.tuple #[tv 0 0, .int .i64 20]) ∧ Below W.heap.size W w') := by
  obtain ⟨g1, g2⟩ := core_num n N
  have e1 : trimB (bl tc) = core n N := by rw [htB]; exact trim_core n A B N
  have e2 : numE (trimB (bl tc)) = 0 := by rw [e1, numE, if_pos g1, g2, err1_yes hx]
  have e3 : numV (trimB (bl tc)) = n := by rw [e1, numV, if_pos g1, g2, val1_yes hx]
  constructor
  · intro W hb
    have h := to_text_int tc W (by omega) (hT.below hb) e2
    rw [e3] at h
    exact h
  · intro W hb
    obtain ⟨X, hX⟩ : ∃ X : ByteArray, X = tc ++ { data := #[120] } := ⟨_, rfl⟩
    have hx5 : X.size ≤ 1000 := by rw [hX, sz_app, bsz]; omega
    have eb : bl X = bks A ++ core n N ++ bks B ++ [120] := by rw [hX, bl_app, htB]
    have e4 : (numE (trimB (bl X)) != 0) = true := by
      rw [eb, trim_x, num_x]
      rfl
    rw [← hX]
    exact to_text_no X W hx5 (hT.below hb) e4
end Go.Proofs.YtbghbfgbpdppeaaGreatDoor
