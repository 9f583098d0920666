/- TextOne's parts: what its calls return at one number, and at one byte. -/
import Derived.Test.YtcokkmjfdnigpaaDoorTextX
import Derived.Test.YtcokkmjfdnigpaaDoorTextI
namespace Go.Proofs.YtcokkmjfdnigpaaDoor
open Go.ChangeShapes Go.WideShapes Go.ChangeAt Go.RowKit Go.Lib
set_option linter.unusedVariables false

theorem jn_one (c : Nat) : jn [c] = oneB c := by simp [jn]
theorem sgs_good {c : Nat} (h : c < 55296 ∨ (57344 ≤ c ∧ c ≤ 1114111)) : sgs (jn [c]) = [c] := by
  obtain ⟨x, t, e, _⟩ := one_head h
  have hs := sg_one h []
  rw [List.append_nil] at hs
  rw [jn_one, sgs_step (by rw [e]; simp), hs]
  simp only
  rw [List.drop_length, sgs_nil]
theorem sgs_byte_hi (b : UInt8) (h : 128 ≤ b.toNat) : sgs [b] = [1114112 + b.toNat] := by
  have e : sg [b] = (1114112 + b.toNat, 1) := by
    have hd : decodeN [b].length (bt [b] 0) (bt [b] 1) (bt [b] 2) (bt [b] 3) = (65533, 1) := decodeN_alone _ _ _ _ _ h (.inl (Nat.le_refl _))
    unfold sg sgN
    rw [if_pos hd]
    rfl
  rw [sgs_step (by simp), e]
  show _ :: sgs [] = _
  rw [sgs_nil]
theorem eq1' (b : UInt8) (h : b.toNat < 128) : sg [b] = (b.toNat, 1) := by
  have hd : decodeN [b].length (bt [b] 0) (bt [b] 1) (bt [b] 2) (bt [b] 3) = (b.toNat, 1) := decodeN_ascii _ _ _ _ _ h
  unfold sg sgN
  rw [if_neg (by rw [hd]; simp; omega), hd]
theorem sgs_byte_lo (b : UInt8) (h : b.toNat < 128) : sgs [b] = [b.toNat] := by
  have e : sg [b] = (b.toNat, 1) := eq1' b h
  rw [sgs_step (by simp), e]
  show _ :: sgs [] = _
  rw [sgs_nil]
theorem sgs_raw {c : Nat} (h : 1114240 ≤ c ∧ c ≤ 1114367) : sgs (jn [c]) = [c] := by
  have e : oneB c = [UInt8.ofNat (c - 1114112)] := by unfold oneB; rw [if_pos (by omega)]
  have hb : (UInt8.ofNat (c - 1114112)).toNat = c - 1114112 := by simp; omega
  rw [jn_one, e, sgs_byte_hi _ (by rw [hb]; omega), hb, show 1114112 + (c - 1114112) = c by omega]

theorem bytes_one (c : Nat) (hs : isSg c = true) (h : sgs (jn [c]) = [c]) (W : World) (hT : TabsU W) :
    Calls Tryd.prog 11 #[.slice (some ⟨W.heap.size, 0, none⟩) 1 1] (W.alloc (.cells #[.int .i64 c] 3)) fun e w' => e = .returned (.tuple #[.string ⟨(oneB c).toArray⟩, .int .i64 0]) ∧ Below W.heap.size W w' := by
  have hb0 : Below W.heap.size W (W.alloc (.cells #[.int .i64 c] 3)) := (Below.refl _ _).alloc (Nat.le_refl _) _
  have C := Bytes_signs _ [c] _ (Rd.lit W [(c : Int)] 1 rfl) (by simp) (by simpa using hs) (hT.below hb0)
  rw [h, beq_self_eq_true, if_pos rfl, jn_one] at C
  exact C.mono fun e w' ⟨he, hb⟩ => ⟨he, btr hb0 hb⟩
theorem bytes_none (c : Int) (hs : isZ c = false) (W : World) :
    Calls Tryd.prog 11 #[.slice (some ⟨W.heap.size, 0, none⟩) 1 1] (W.alloc (.cells #[.int .i64 c] 3)) fun e w' => e = .returned (.tuple #[.string ⟨#[]⟩, .int .i64 1]) ∧ Below W.heap.size W w' := by
  have hb0 : Below W.heap.size W (W.alloc (.cells #[.int .i64 c] 3)) := (Below.refl _ _).alloc (Nat.le_refl _) _
  have C := Bytes_arg _ [c] _ (Rd.lit W [c] 1 rfl) (by simp) (by simp [hs])
  exact C.mono fun e w' ⟨he, hb⟩ => ⟨he, btr hb0 hb⟩
theorem signs_byte (b : UInt8) (z : Nat) (hz : sgs [b] = [z]) (W : World) (hT : TabsU W) : Calls Tryd.prog 14 #[.string ⟨#[b]⟩] W fun e w' =>
    ∃ g c, e = .returned (.slice (some ⟨g, 0, none⟩) 1 c) ∧ 1 ≤ c ∧ g < w'.heap.size ∧ w'.cell? ⟨g, 0, none⟩ = some (.int .i64 z) ∧ Below W.heap.size W w' := by
  refine (signs_any ⟨#[b]⟩ W (by show 1 ≤ 1000000; omega) hT).mono ?_
  rintro e w' ⟨v, rfl, hO, hb⟩
  have hO' : Own w' W.heap.size v [z] := by
    have : bl ⟨#[b]⟩ = [b] := rfl
    rw [this, hz] at hO
    exact hO
  rcases hO' with ⟨_, h⟩ | ⟨g, cap, cur, rfl, h1, hg, hn, hc, hs, ht⟩
  · cases h
  · refine ⟨g, cap, rfl, by simpa using hn, (Array.getElem?_eq_some_iff.1 hg).1, ?_, hb⟩
    rw [cell_of_row w' g 0 cur 3 (0, 0) hg, ← Array.getElem?_toList]
    have e1 : (cur.toList.take [z].length)[0]? = (cl [z])[0]? := by rw [ht]
    rwa [List.getElem?_take_of_lt (by simp)] at e1

theorem encode_one {n : Nat} (h : n < 55296 ∨ (57344 ≤ n ∧ n ≤ 1114111)) : (Utf8.encode (n : Int)).toList = oneB n := by
  have hv : Utf8.valid (n : Int) = true := by
    unfold Utf8.valid
    simp
    omega
  have e : Utf8.encode (n : Int) = ⟨(oneB n).toArray⟩ := by
    unfold Utf8.encode oneB
    simp only [hv, if_true, Int.toNat_natCast]
    rw [if_neg (show ¬ 1114112 ≤ n by omega)]
    by_cases h1 : n < 128
    · rw [if_pos h1, if_pos h1]
    rw [if_neg h1, if_neg h1]
    by_cases h2 : n < 2048
    · rw [if_pos h2, if_pos h2]
    rw [if_neg h2, if_neg h2]
    by_cases h3 : n < 65536
    · rw [if_pos h3, if_pos h3]
    rw [if_neg h3, if_neg h3]
  rw [e, ByteArray.toList_eq]
theorem one_size (n k : Nat) (h : n < 1114112) (hk : (n < 128 ∧ k = 1) ∨ (128 ≤ n ∧ n < 2048 ∧ k = 2) ∨ (2048 ≤ n ∧ n < 65536 ∧ k = 3) ∨ (65536 ≤ n ∧ k = 4)) : (oneB n).length = k := by
  unfold oneB
  rw [if_neg (by omega)]
  rcases hk with ⟨h1, rfl⟩ | ⟨h1, h2, rfl⟩ | ⟨h1, h2, rfl⟩ | ⟨h1, rfl⟩
  · rw [if_pos h1]; rfl
  · rw [if_neg (by omega), if_pos h2]; rfl
  · rw [if_neg (by omega), if_neg (by omega), if_pos h2]; rfl
  · rw [if_neg (by omega), if_neg (by omega), if_neg (by omega)]; rfl
theorem conv_byte (bb : UInt8) (b : Int) (hb : (bb.toNat : Int) = b) (W : World) : (convert 32 9 (.slice (some ⟨W.heap.size, 0, none⟩) 1 1)).run Tryd.prog (W.alloc (.cells #[.int .u8 b] 5)) = .ok (.string ⟨#[bb]⟩) (W.alloc (.cells #[.int .u8 b] 5)) :=
  conv_lit W [bb] (n := 1) (cs := #[.int .u8 b]) rfl (fun k hk => by
    have : k = 0 := by simpa using hk
    subst this
    show some (Value.int .u8 b) = some (Value.int .u8 (bb.toNat : Int))
    rw [hb]) _ rfl
theorem signs_byte' (bb : UInt8) (wb : Int) (h : ∃ z : Nat, sgs [bb] = [z] ∧ (z : Int) = wb) (W : World) (hT : TabsU W) : Calls Tryd.prog 14 #[.string ⟨#[bb]⟩] W fun e w' =>
    ∃ g c, e = .returned (.slice (some ⟨g, 0, none⟩) 1 c) ∧ 1 ≤ c ∧ g < w'.heap.size ∧ w'.cell? ⟨g, 0, none⟩ = some (.int .i64 wb) ∧ Below W.heap.size W w' := by
  obtain ⟨z, hz, rfl⟩ := h
  exact signs_byte bb z hz W hT
end Go.Proofs.YtcokkmjfdnigpaaDoor
