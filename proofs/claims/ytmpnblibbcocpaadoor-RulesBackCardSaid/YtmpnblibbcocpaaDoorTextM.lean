
/- Texts as signs, in plain Lean: what a text's signs are, that their bytes lead back, how many they are, whether all are code points, what folding does to them and what a beginning is. No condition. -/
import Derived.Lib.MapLaws
import Derived.Lib.ValidLaws
import Derived.Lib.RuneCount
import Derived.Lib.TrimUEq
namespace Go.Proofs.YtmpnblibbcocpaaDoor
open Go.Lib

def sgN (n b0 b1 b2 b3 : Nat) : Nat × Nat := if decodeN n b0 b1 b2 b3 = (65533, 1) then (1114112 + b0, 1) else decodeN n b0 b1 b2 b3
def bt (l : List UInt8) (k : Nat) : Nat := (l.getD k 0).toNat
def sg (l : List UInt8) : Nat × Nat := sgN l.length (bt l 0) (bt l 1) (bt l 2) (bt l 3)
theorem bt_lt (l : List UInt8) (k : Nat) : bt l k < 256 := (l.getD k 0).toNat_lt

theorem sgN_shape (n b0 b1 b2 b3 : Nat) :
    (b0 < 128 ∧ sgN n b0 b1 b2 b3 = (b0, 1)) ∨
    (b0 / 32 = 6 ∧ 1 < n ∧ b1 / 64 = 2 ∧ 128 ≤ b0 % 32 * 64 + b1 % 64 ∧ sgN n b0 b1 b2 b3 = (b0 % 32 * 64 + b1 % 64, 2)) ∨
    (b0 / 16 = 14 ∧ 2 < n ∧ b1 / 64 = 2 ∧ b2 / 64 = 2 ∧ 2048 ≤ b0 % 16 * 4096 + b1 % 64 * 64 + b2 % 64 ∧ (b0 % 16 * 4096 + b1 % 64 * 64 + b2 % 64 < 55296 ∨ 57344 ≤ b0 % 16 * 4096 + b1 % 64 * 64 + b2 % 64) ∧
      sgN n b0 b1 b2 b3 = (b0 % 16 * 4096 + b1 % 64 * 64 + b2 % 64, 3)) ∨
    (b0 / 8 = 30 ∧ 3 < n ∧ b1 / 64 = 2 ∧ b2 / 64 = 2 ∧ b3 / 64 = 2 ∧ 65536 ≤ b0 % 8 * 262144 + b1 % 64 * 4096 + b2 % 64 * 64 + b3 % 64 ∧ b0 % 8 * 262144 + b1 % 64 * 4096 + b2 % 64 * 64 + b3 % 64 ≤ 1114111 ∧
      sgN n b0 b1 b2 b3 = (b0 % 8 * 262144 + b1 % 64 * 4096 + b2 % 64 * 64 + b3 % 64, 4)) ∨
    (128 ≤ b0 ∧ decodeN n b0 b1 b2 b3 = (65533, 1) ∧ sgN n b0 b1 b2 b3 = (1114112 + b0, 1)) := by
  unfold sgN
  rcases decodeN_shape n b0 b1 b2 b3 with ⟨c, e⟩ | ⟨c1, c2, c3, cv, e⟩ | ⟨c1, c2, c3, c4, cv, cs, e⟩ | ⟨c1, c2, c3, c4, c5, cv, cw, e⟩ | e
  · left; rw [e, if_neg (by simp; omega)]; exact ⟨c, rfl⟩
  · right; left; rw [e, if_neg (by simp)]; exact ⟨c1, c2, c3, cv, rfl⟩
  · right; right; left; rw [e, if_neg (by simp)]; exact ⟨c1, c2, c3, c4, cv, cs, rfl⟩
  · right; right; right; left; rw [e, if_neg (by simp)]; exact ⟨c1, c2, c3, c4, c5, cv, cw, rfl⟩
  · by_cases c : b0 < 128
    · rw [decodeN_ascii _ _ _ _ _ c] at e
      injection e with e _
      omega
    · right; right; right; right; rw [if_pos e]; exact ⟨by omega, e, rfl⟩

theorem sgN_width (n b0 b1 b2 b3 : Nat) : (sgN n b0 b1 b2 b3).2 = (decodeN n b0 b1 b2 b3).2 := by
  unfold sgN
  split
  · rename_i h; rw [h]
  · rfl
theorem sg_pos (l : List UInt8) : 1 ≤ (sg l).2 := by
  unfold sg
  rw [sgN_width]
  exact decodeN_ge1 _ _ _ _ _
theorem sg_le (l : List UInt8) (hne : l ≠ []) : (sg l).2 ≤ l.length := by
  have hl : 0 < l.length := List.length_pos_iff.2 hne
  unfold sg
  rcases sgN_shape l.length (bt l 0) (bt l 1) (bt l 2) (bt l 3) with ⟨c, e⟩ | ⟨c1, c2, c3, cv, e⟩ | ⟨c1, c2, c3, c4, cv, cs, e⟩ | ⟨c1, c2, c3, c4, c5, cv, cw, e⟩ | ⟨_, _, e⟩ <;> rw [e] <;> simp only <;> omega

def sgs (l : List UInt8) : List Nat := if _h : l = [] then [] else (sg l).1 :: sgs (l.drop (sg l).2)
termination_by l.length
decreasing_by
  have h1 := sg_pos l
  have h2 : 0 < l.length := List.length_pos_iff.2 _h
  rw [List.length_drop]
  omega
theorem sgs_nil : sgs [] = [] := by rw [sgs, dif_pos rfl]
theorem sgs_step {l : List UInt8} (h : l ≠ []) : sgs l = (sg l).1 :: sgs (l.drop (sg l).2) := by
  conv => lhs; rw [sgs, dif_neg h]

def oneB (c : Nat) : List UInt8 :=
  if 1114112 ≤ c then [UInt8.ofNat (c - 1114112)]
  else if c < 128 then [UInt8.ofNat c]
  else if c < 2048 then [UInt8.ofNat (192 + c / 64), UInt8.ofNat (128 + c % 64)]
  else if c < 65536 then [UInt8.ofNat (224 + c / 4096), UInt8.ofNat (128 + c / 64 % 64), UInt8.ofNat (128 + c % 64)]
  else [UInt8.ofNat (240 + c / 262144), UInt8.ofNat (128 + c / 4096 % 64), UInt8.ofNat (128 + c / 64 % 64), UInt8.ofNat (128 + c % 64)]
def jn (l : List Nat) : List UInt8 := (l.map oneB).flatten

theorem ofb {n : Nat} {x : UInt8} (h : n = x.toNat) : UInt8.ofNat n = x := by subst h; simp

theorem one_sg (l : List UInt8) (hne : l ≠ []) : oneB (sg l).1 = l.take (sg l).2 := by
  have hl : 0 < l.length := List.length_pos_iff.2 hne
  have k0 := bt_lt l 0
  have k1 := bt_lt l 1
  have k2 := bt_lt l 2
  have k3 := bt_lt l 3
  unfold sg
  rcases sgN_shape l.length (bt l 0) (bt l 1) (bt l 2) (bt l 3) with ⟨c, e⟩ | ⟨c1, c2, c3, cv, e⟩ | ⟨c1, c2, c3, c4, cv, cs, e⟩ | ⟨c1, c2, c3, c4, c5, cv, cw, e⟩ | ⟨c, _, e⟩
  · rw [e, takeA l hl]
    unfold oneB
    rw [if_neg (by simp only; omega), if_pos (by simp only; omega)]
    exact congrArg (fun x => [x]) (ofb (x := l.getD 0 0) rfl)
  · rw [e, takeB l c2]
    unfold oneB
    rw [if_neg (by simp only; omega), if_neg (by simp only; omega), if_pos (by simp only; omega), ofb (x := l.getD 0 0) (by unfold bt at *; simp only; omega), ofb (x := l.getD 1 0) (by unfold bt at *; simp only; omega)]
  · rw [e, takeC l c2]
    unfold oneB
    rw [if_neg (by simp only; omega), if_neg (by simp only; omega), if_neg (by simp only; omega), if_pos (by simp only; omega), ofb (x := l.getD 0 0) (by unfold bt at *; simp only; omega), ofb (x := l.getD 1 0) (by unfold bt at *; simp only; omega), ofb (x := l.getD 2 0) (by unfold bt at *; simp only; omega)]
  · rw [e, takeD l c2]
    unfold oneB
    rw [if_neg (by simp only; omega), if_neg (by simp only; omega), if_neg (by simp only; omega), if_neg (by simp only; omega), ofb (x := l.getD 0 0) (by unfold bt at *; simp only; omega), ofb (x := l.getD 1 0) (by unfold bt at *; simp only; omega), ofb (x := l.getD 2 0) (by unfold bt at *; simp only; omega), ofb (x := l.getD 3 0) (by unfold bt at *; simp only; omega)]
  · rw [e, takeA l hl]
    unfold oneB
    rw [if_pos (by simp only; omega), ofb (x := l.getD 0 0) (by unfold bt at *; simp only; omega)]

theorem jn_sgs : ∀ (k : Nat) (l : List UInt8), l.length ≤ k → jn (sgs l) = l
  | k, [], _ => by rw [sgs_nil]; rfl
  | 0, _ :: _, h => by simp at h
  | k + 1, b :: t, h => by
    have hne : b :: t ≠ [] := by simp
    rw [sgs_step hne]
    show oneB _ ++ jn _ = _
    rw [jn_sgs k _ (by rw [List.length_drop]; have := sg_pos (b :: t); omega), one_sg _ hne, List.take_append_drop]

def isSg (c : Nat) : Bool := decide (c < 55296 ∨ (57344 ≤ c ∧ c ≤ 1114111) ∨ (1114240 ≤ c ∧ c ≤ 1114367))
theorem sg_is (l : List UInt8) : isSg (sg l).1 = true := by
  have k0 := bt_lt l 0
  unfold sg isSg
  rw [decide_eq_true_eq]
  rcases sgN_shape l.length (bt l 0) (bt l 1) (bt l 2) (bt l 3) with ⟨c, e⟩ | ⟨c1, c2, c3, cv, e⟩ | ⟨c1, c2, c3, c4, cv, cs, e⟩ | ⟨c1, c2, c3, c4, c5, cv, cw, e⟩ | ⟨c, _, e⟩ <;> rw [e] <;> simp only <;> omega
theorem sgs_is : ∀ (k : Nat) (l : List UInt8), l.length ≤ k → ∀ c ∈ sgs l, isSg c = true
  | k, [], _ => by rw [sgs_nil]; intro c hc; cases hc
  | 0, _ :: _, h => by simp at h
  | k + 1, b :: t, h => by
    have hne : b :: t ≠ [] := by simp
    rw [sgs_step hne]
    intro c hc
    rcases List.mem_cons.1 hc with rfl | hc
    · exact sg_is _
    · exact sgs_is k _ (by rw [List.length_drop]; have := sg_pos (b :: t); omega) c hc
theorem sgs_len : ∀ (k : Nat) (l : List UInt8), l.length ≤ k → (sgs l).length ≤ l.length
  | k, [], _ => by rw [sgs_nil]; simp
  | 0, _ :: _, h => by simp at h
  | k + 1, b :: t, h => by
    have hne : b :: t ≠ [] := by simp
    have h1 := sg_pos (b :: t)
    rw [sgs_step hne]
    have := sgs_len k ((b :: t).drop (sg (b :: t)).2) (by rw [List.length_drop]; omega)
    rw [List.length_drop] at this
    simp only [List.length_cons] at *
    omega

/-! ### how many; whether all are code points -/
theorem sg_width (l : List UInt8) : (sg l).2 = (decodeL l).2 := by rw [decodeL_N]; exact sgN_width _ _ _ _ _
theorem sg_bad (l : List UInt8) : (sg l).1 ≤ 1114111 ↔ ¬ ((decodeL l).1 = 65533 ∧ (decodeL l).2 = 1) := by
  have hr := decodeL_rune l
  rw [decodeL_N] at hr ⊢
  unfold sg sgN
  unfold bt
  generalize decodeN l.length (l.getD 0 0).toNat (l.getD 1 0).toNat (l.getD 2 0).toNat (l.getD 3 0).toNat = d at *
  obtain ⟨x, y⟩ := d
  split
  · rename_i h
    injection h with h1 h2
    simp only [h1, h2, and_self, not_true_eq_false, iff_false]
    omega
  · rename_i h
    simp only at hr ⊢
    refine ⟨fun _ hh => h (by rw [hh.1, hh.2]), fun _ => hr⟩
theorem count_from (s : ByteArray) : ∀ fuel pos, s.size ≤ pos + fuel → runeCountFrom s fuel pos = (sgs (s.data.toList.drop pos)).length
  | 0, pos, h => by
    have hsz : s.data.toList.length = s.size := by simp
    rw [List.drop_eq_nil_of_le (by omega), sgs_nil]
    rfl
  | f + 1, pos, h => by
    have hsz : s.data.toList.length = s.size := by simp
    unfold runeCountFrom
    split
    · rename_i hp
      have hne : s.data.toList.drop pos ≠ [] := by
        intro e
        have := List.length_drop (l := s.data.toList) (i := pos)
        rw [e] at this
        simp at this
        omega
      rw [sgs_step hne, List.length_cons, List.drop_drop, sg_width, decodeL_drop, count_from s f _ (by have := width_pos s pos; omega)]
      omega
    · rw [List.drop_eq_nil_of_le (by omega), sgs_nil]
      rfl
theorem count_sgs (s : ByteArray) : runeCount s = (sgs s.data.toList).length := by
  have := count_from s s.size 0 (by omega)
  rwa [List.drop_zero] at this
theorem valid_sgs : ∀ (k : Nat) (l : List UInt8), l.length ≤ k → validD l = (sgs l).all (fun c => decide (c ≤ 1114111))
  | k, [], _ => by rw [sgs_nil]; rfl
  | 0, _ :: _, h => by simp at h
  | k + 1, b :: t, h => by
    have hne : b :: t ≠ [] := by simp
    have h1 := sg_pos (b :: t)
    have hb := sg_bad (b :: t)
    rw [validD_step _ hne, sgs_step hne, List.all_cons, ← sg_width, valid_sgs k _ (by rw [List.length_drop]; omega)]
    rw [← sg_width] at hb
    split
    · rename_i hbad
      have : ¬ (sg (b :: t)).1 ≤ 1114111 := fun hle => hb.1 hle hbad
      simp [this]
    · rename_i hgood
      have := hb.2 hgood
      simp [this]
end Go.Proofs.YtmpnblibbcocpaaDoor
