
/- The document's product; the look of one answer against the other: what each function returns, for every number of 64 bits. -/
import Derived.Test.YtbghbfgbpdppeaaGreatDoorIntsD
namespace Go.Proofs.YtbghbfgbpdppeaaGreatDoor
open Go.ChangeShapes Go.WideShapes Go.ChangeAt Go.RowKit

theorem fits_wf {a : Int} (h : (Lit.int .i64 a).wf = true) : fits a = true := by
  simp [Lit.wf, IntKind.min, IntKind.max, IntKind.signed, IntKind.bits] at h
  apply fits_mk <;> omega
theorem u64_wf {a : Int} (h : (Lit.int .u64 a).wf = true) : 0 ≤ a ∧ a < 18446744073709551616 := by
  simp [Lit.wf, IntKind.min, IntKind.max, IntKind.signed, IntKind.bits] at h
  omega

theorem mul_back {a b : Int} (hb0 : b ≠ 0) (hbb : fits b = true) (h : (wrap64 (a * b)).tdiv b = a) : fits (a * b) = true := by
  obtain ⟨k, hk⟩ := wrap64_sub (a * b)
  have h1 := Int.mul_tdiv_add_tmod (wrap64 (a * b)) b
  rw [h, hk, Int.mul_comm b a] at h1
  have h2 : ((a * b - k * 18446744073709551616).tmod b).natAbs < b.natAbs := by
    rw [Int.natAbs_tmod]; exact Nat.mod_lt _ (by omega)
  have h3 := bd hbb
  have hk0 : k = 0 := by
    generalize (a * b - k * 18446744073709551616).tmod b = r at *
    omega
  rw [hk0, Int.zero_mul, Int.sub_zero] at hk
  rw [← hk]
  exact fits_wrap64 _
theorem mul_there {a b : Int} (hb0 : b ≠ 0) (hf : fits (a * b) = true) : (wrap64 (a * b)).tdiv b = a := by
  rw [w64_in hf]
  exact Int.mul_tdiv_cancel a hb0

theorem below_grow (w : World) (k : Nat) (os : Array Obj) : Below w.heap.size w (Sort.grow (w.drewN k) os) :=
  ⟨rfl, rfl, rfl, by simp [Sort.grow], fun j hj => by simp [Sort.grow, Array.getElem?_append, hj]⟩

theorem text_any (x : Int) (w : World) (hx : fits x = true) (hT : Lib.TabIs Tryz.prog w "internal/strconv.uint64pow10" .u64 Lib.pow10Tab) :
    Calls Tryz.prog 51 #[.int .i64 x] w fun e w' => e = .returned (.string ⟨(Lib.itoa x).toArray⟩) ∧ Below w.heap.size w w' := by
  have C := Lib.hid (Tryz.strconv_FormatInt_10 x (bd hx).1 (bd hx).2 w hT)
  clear hx hT
  go_enter Tryz.func51, Tryz.ntmps51
  go_wp2_with (go_at_call 67; refine C.out.mono ?_; rintro e w' ⟨rfl, k, os, rfl⟩)
  go_ret
  exact ⟨rfl, below_grow _ _ _⟩
end Go.Proofs.YtbghbfgbpdppeaaGreatDoor
