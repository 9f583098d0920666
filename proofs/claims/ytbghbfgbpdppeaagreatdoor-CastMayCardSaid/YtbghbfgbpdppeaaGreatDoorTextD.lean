
/- The document's first sign of a text (umlautref1.Sign) is the program's: for every text that is not empty. -/
import Derived.Test.YtbghbfgbpdppeaaGreatDoorTextA
namespace Go.Proofs.YtbghbfgbpdppeaaGreatDoor.Tx
open Go.ChangeShapes Go.WideShapes Go.ChangeAt Go.RowKit Go.Lib

theorem eq1 {n b0 b1 b2 b3 : Nat} (h : b0 < 128) : sgN n b0 b1 b2 b3 = (b0, 1) := by
  unfold sgN
  rw [decodeN_ascii _ _ _ _ _ h, if_neg (by simp; omega)]
theorem eq2 {n b0 b1 b2 b3 : Nat} (h0 : 194 ≤ b0) (h1 : b0 ≤ 223) (hn : 1 < n) (h2 : 128 ≤ b1) (h3 : b1 ≤ 191) : sgN n b0 b1 b2 b3 = ((b0 - 192) * 64 + b1 - 128, 2) := by
  have e : decodeN n b0 b1 b2 b3 = ((b0 - 192) * 64 + b1 - 128, 2) := by
    unfold decodeN
    rw [if_neg (by omega), if_pos (by omega), if_pos (by omega), Prod.mk.injEq]
    exact ⟨by omega, rfl⟩
  unfold sgN
  rw [e, if_neg (by simp)]
theorem eq3 {n b0 b1 b2 b3 : Nat} (h0 : 224 ≤ b0) (h1 : b0 ≤ 239) (hn : 2 < n) (h2 : 128 ≤ b1) (h3 : b1 ≤ 191) (h4 : 128 ≤ b2) (h5 : b2 ≤ 191)
    (hv : 2048 ≤ (b0 - 224) * 4096 + (b1 - 128) * 64 + b2 - 128) (hs : (b0 - 224) * 4096 + (b1 - 128) * 64 + b2 - 128 < 55296 ∨ 57343 < (b0 - 224) * 4096 + (b1 - 128) * 64 + b2 - 128) :
    sgN n b0 b1 b2 b3 = ((b0 - 224) * 4096 + (b1 - 128) * 64 + b2 - 128, 3) := by
  have e : decodeN n b0 b1 b2 b3 = ((b0 - 224) * 4096 + (b1 - 128) * 64 + b2 - 128, 3) := by
    unfold decodeN
    rw [if_neg (by omega), if_neg (by omega), if_pos (by omega), if_pos (by omega), Prod.mk.injEq]
    exact ⟨by omega, rfl⟩
  unfold sgN
  rw [e, if_neg (by simp)]
theorem eq4 {n b0 b1 b2 b3 : Nat} (h0 : 240 ≤ b0) (h1 : b0 ≤ 244) (hn : 3 < n) (h2 : 128 ≤ b1) (h3 : b1 ≤ 191) (h4 : 128 ≤ b2) (h5 : b2 ≤ 191) (h6 : 128 ≤ b3) (h7 : b3 ≤ 191)
    (hv : 65536 ≤ (b0 - 240) * 262144 + (b1 - 128) * 4096 + (b2 - 128) * 64 + b3 - 128) (hs : (b0 - 240) * 262144 + (b1 - 128) * 4096 + (b2 - 128) * 64 + b3 - 128 ≤ 1114111) :
    sgN n b0 b1 b2 b3 = ((b0 - 240) * 262144 + (b1 - 128) * 4096 + (b2 - 128) * 64 + b3 - 128, 4) := by
  have e : decodeN n b0 b1 b2 b3 = ((b0 - 240) * 262144 + (b1 - 128) * 4096 + (b2 - 128) * 64 + b3 - 128, 4) := by
    unfold decodeN
    rw [if_neg (by omega), if_neg (by omega), if_neg (by omega), if_pos (by omega), if_pos (by omega), Prod.mk.injEq]
    exact ⟨by omega, rfl⟩
  unfold sgN
  rw [e, if_neg (by simp)]
theorem eqB {n b0 b1 b2 b3 : Nat} (hb : 128 ≤ b0) (h8 : b0 < 256) (h2 : ¬ (194 ≤ b0 ∧ b0 ≤ 223 ∧ 1 < n ∧ 128 ≤ b1 ∧ b1 ≤ 191))
    (h3 : ¬ (224 ≤ b0 ∧ b0 ≤ 239 ∧ 2 < n ∧ 128 ≤ b1 ∧ b1 ≤ 191 ∧ 128 ≤ b2 ∧ b2 ≤ 191 ∧ 2048 ≤ (b0 - 224) * 4096 + (b1 - 128) * 64 + b2 - 128 ∧ ((b0 - 224) * 4096 + (b1 - 128) * 64 + b2 - 128 < 55296 ∨ 57343 < (b0 - 224) * 4096 + (b1 - 128) * 64 + b2 - 128)))
    (h4 : ¬ (240 ≤ b0 ∧ b0 ≤ 244 ∧ 3 < n ∧ 128 ≤ b1 ∧ b1 ≤ 191 ∧ 128 ≤ b2 ∧ b2 ≤ 191 ∧ 128 ≤ b3 ∧ b3 ≤ 191 ∧ 65536 ≤ (b0 - 240) * 262144 + (b1 - 128) * 4096 + (b2 - 128) * 64 + b3 - 128 ∧ (b0 - 240) * 262144 + (b1 - 128) * 4096 + (b2 - 128) * 64 + b3 - 128 ≤ 1114111)) :
    sgN n b0 b1 b2 b3 = (1114112 + b0, 1) := by
  rcases sgN_shape n b0 b1 b2 b3 with ⟨c, e⟩ | ⟨c1, c2, c3, cv, e⟩ | ⟨c1, c2, c3, c4, cv, cs, e⟩ | ⟨c1, c2, c3, c4, c5, cv, cw, e⟩ | ⟨c, _, e⟩
  · omega
  · exfalso; omega
  · exfalso; omega
  · exfalso; omega
  · exact e

theorem bl_at {s : ByteArray} {k : Nat} (h : k < s.size) : (s[k]'h).toNat = bt (bl s) k := by
  have hl : k < (bl s).length := by rw [bl_len]; exact h
  unfold bt
  rw [List.getD, List.getElem?_eq_getElem hl]
  rfl

end Go.Proofs.YtbghbfgbpdppeaaGreatDoor.Tx
