
/- strconv.ParseUint at base 16 and 16 bits: the number, or an error. Conditions: the text is not too long; strconv's two errors stand. -/
import Derived.Test.YtbghbfgbpdppeaaDoorElemU
import Derived.Test.YtbghbfgbpdppeaaDoorTextG
import Derived.Lib.SmallJoins
namespace Go.Proofs.YtbghbfgbpdppeaaDoor
open Go.ChangeShapes Go.WideShapes Go.ChangeAt Go.RowKit
set_option linter.unusedVariables false

/-- what a text to sixteen is read as -/
def hexOf (l : List UInt8) : Lib.NumEnd Nat := if l = [] then Lib.NumEnd.syntax else hpar 0 l
theorem hexOf_le {l : List UInt8} {n : Nat} (h : hexOf l = .ok n) : n ≤ 65535 := by
  unfold hexOf at h
  split at h
  · cases h
  · exact hpar_le _ _ _ (by decide) h

set_option maxRecDepth 100000 in
theorem ipu_empty (t : ByteArray) (hz : t.size = 0) (w : World) :
    Calls Tryd.prog 82 #[.string t, .int .i64 16, .int .i64 16] w fun e w' => e = .returned (.tuple #[.int .u64 0, .iface 131 (.int .i64 2)]) ∧ Below w.heap.size w w' := by
  have hemp : t.toList.isEmpty = true := by
    rw [← decide_eq_emptyBytes]
    exact decide_eq_true (by cases t; simp at hz; simp [ByteArray.empty, ByteArray.emptyWithCapacity, hz])
  go_enter Tryd.func82, Tryd.ntmps82
  go_wp2
  go_ret2
  exact ⟨rfl, Below.refl _ _⟩
theorem err_cell {n : String} {g : Nat} {w : World} (hg : Tryd.prog.globalNamed n = some g) (h : ErrAt n w) : ∃ ev, w.cell? ⟨g, 0, none⟩ = some ev ∧ (ev = .nilIface ∨ ∃ te pe, ev = .iface te pe) := by
  obtain ⟨tp, p, h⟩ := h
  exact ⟨_, by rw [World.var?_cell hg h]; rfl, .inr ⟨tp, p, rfl⟩⟩
theorem ipu_all (t : ByteArray) (hmax : t.size ≤ 1000000) (w : World) :
    Calls Tryd.prog 82 #[.string t, .int .i64 16, .int .i64 16] w fun e w' => e = .returned (Lib.uintTupleM 131 65535 (hexOf (bl t))) ∧ Below w.heap.size w w' := by
  by_cases hz : t.size = 0
  · have he : bl t = [] := List.eq_nil_of_length_eq_zero (by rw [bl_len]; exact hz)
    rw [he]
    exact ipu_empty t hz w
  · have he : bl t ≠ [] := fun h => hz (by rw [← bl_len, h]; rfl)
    refine (ipu_any t hz hmax w).mono ?_
    rintro e w' ⟨rfl, rfl⟩
    exact ⟨by rw [hexOf, if_neg he], Joins.below_bytesWorld _ w _ t (Nat.le_refl _)⟩

set_option maxHeartbeats 1000000 in
set_option maxRecDepth 100000 in
theorem pu_ok (t : ByteArray) (hmax : t.size ≤ 1000000) (n : Nat) (w : World) (h : hexOf (bl t) = .ok n) :
    Calls Tryd.prog 54 #[.string t, .int .i64 16, .int .i64 16] w fun e w' => e = .returned (.tuple #[.int .u64 n, .nilIface]) ∧ Below w.heap.size w w' := by
  have C := ipu_all t hmax w
  rw [h] at C
  replace C := Lib.hid C
  have e1 : Lib.uintTupleM 131 65535 (.ok n) = .tuple #[.int .u64 n, .nilIface] := rfl
  rw [e1] at C
  clear e1 h
  generalize (n : Int) = n at *
  go_enter Tryd.func54, Tryd.ntmps54
  go_wp2_with (first | (go_at_call 82; (with_reducible refine C.out.mono ?_); rintro e w1 ⟨rfl, hb1⟩))
  go_ret2
  exact ⟨rfl, hb1⟩

set_option maxHeartbeats 1000000 in
set_option maxRecDepth 100000 in
theorem pu_err (t : ByteArray) (hmax : t.size ≤ 1000000) (w : World) (hX : TabsX w) (h : ∀ n, hexOf (bl t) ≠ .ok n) :
    Calls Tryd.prog 54 #[.string t, .int .i64 16, .int .i64 16] w fun e w' => ∃ x N, e = .returned (.tuple #[.int .u64 x, .iface 133 (.pointer (some ⟨N, 0, none⟩))]) ∧ Below w.heap.size w w' := by
  have C := ipu_all t hmax w
  rcases hh : hexOf (bl t) with n | _ | _
  · exact absurd hh (h n)
  ·
    rw [hh] at C
    have e1 : Lib.uintTupleM 131 65535 Lib.NumEnd.syntax = .tuple #[.int .u64 0, .iface 131 (.int .i64 2)] := rfl
    rw [e1] at C
    replace C := Lib.hid C
    have S : Hid (∀ W, Below w.heap.size w W → Calls Tryd.prog 83 #[.string ⟨#[80, 97, 114, 115, 101, 85, 105, 110, 116]⟩, .string t, .int .i64 16, .int .i64 16, .iface 131 (.int .i64 2)] W fun e w' => ∃ N, e = .returned (.iface 133 (.pointer (some ⟨N, 0, none⟩))) ∧ Below W.heap.size W w') := Lib.hid (fun W hb => by
      obtain ⟨ev, hc, hv⟩ := err_cell gSyntax (hX.below hb).2.2.2
      exact Calls.mono (Tryd.strconv_toError_syntax ⟨#[80, 97, 114, 115, 101, 85, 105, 110, 116]⟩ t 16 16 ev W (by omega) hc hv) fun _ _ ⟨N, he, _, _, hb2⟩ => ⟨N, he, hb2⟩)
    clear e1 hh h hX
    go_enter Tryd.func54, Tryd.ntmps54
    go_wp2_with (first | (go_at_call 82; (with_reducible refine C.out.mono ?_); rintro e w1 ⟨rfl, hb1⟩) | (go_at_call 83; (with_reducible refine (S.out _ hb1).mono ?_); rintro e w2 ⟨N, rfl, hb2⟩))
    go_ret2
    exact ⟨_, _, rfl, btr hb1 hb2⟩
  ·
    rw [hh] at C
    have e1 : Lib.uintTupleM 131 65535 .range = .tuple #[.int .u64 65535, .iface 131 (.int .i64 1)] := rfl
    rw [e1] at C
    replace C := Lib.hid C
    have S : Hid (∀ W, Below w.heap.size w W → Calls Tryd.prog 83 #[.string ⟨#[80, 97, 114, 115, 101, 85, 105, 110, 116]⟩, .string t, .int .i64 16, .int .i64 16, .iface 131 (.int .i64 1)] W fun e w' => ∃ N, e = .returned (.iface 133 (.pointer (some ⟨N, 0, none⟩))) ∧ Below W.heap.size W w') := Lib.hid (fun W hb => by
      obtain ⟨ev, hc, hv⟩ := err_cell gRange (hX.below hb).2.2.1
      exact Calls.mono (Tryd.strconv_toError_range ⟨#[80, 97, 114, 115, 101, 85, 105, 110, 116]⟩ t 16 16 ev W (by omega) hc hv) fun _ _ ⟨N, he, _, _, hb2⟩ => ⟨N, he, hb2⟩)
    clear e1 hh h hX
    go_enter Tryd.func54, Tryd.ntmps54
    go_wp2_with (first | (go_at_call 82; (with_reducible refine C.out.mono ?_); rintro e w1 ⟨rfl, hb1⟩) | (go_at_call 83; (with_reducible refine (S.out _ hb1).mono ?_); rintro e w2 ⟨N, rfl, hb2⟩))
    go_ret2
    exact ⟨_, _, rfl, btr hb1 hb2⟩
end Go.Proofs.YtbghbfgbpdppeaaDoor
