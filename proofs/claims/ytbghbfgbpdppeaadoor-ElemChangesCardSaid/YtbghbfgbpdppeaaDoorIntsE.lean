
/- The document's product; the look of one answer against the other: what each function returns, for every number of 64 bits. -/
import Derived.Test.YtbghbfgbpdppeaaDoorIntsD
import Derived.Sort.Grow
namespace Go.Proofs.YtbghbfgbpdppeaaDoor
open Go.ChangeShapes Go.WideShapes Go.ChangeAt Go.RowKit

theorem fits_wf {a : Int} (h : (Lit.int .i64 a).wf = true) : fits a = true := by
  simp [Lit.wf, IntKind.min, IntKind.max, IntKind.signed, IntKind.bits] at h
  apply fits_mk <;> omega
theorem u64_wf {a : Int} (h : (Lit.int .u64 a).wf = true) : 0 ≤ a ∧ a < 18446744073709551616 := by
  simp [Lit.wf, IntKind.min, IntKind.max, IntKind.signed, IntKind.bits] at h
  omega

theorem mul_back {a b : Int} (hb0 : b ≠ 0) (hbb : fits b = true) (h : (wrap64 (a * b)).tdiv b = a) : fits (a * b) = true := by
  obtain ⟨k, hk⟩ := wrap64_sub (a * b)
  have h1 := Int.mul_tdiv_add_tmod (wrap64 (a * b)) b
  rw [h, hk, Int.mul_comm b a] at h1
  have h2 : ((a * b - k * 18446744073709551616).tmod b).natAbs < b.natAbs := by
    rw [Int.natAbs_tmod]; exact Nat.mod_lt _ (by omega)
  have h3 := bd hbb
  have hk0 : k = 0 := by
    generalize (a * b - k * 18446744073709551616).tmod b = r at *
    omega
  rw [hk0, Int.zero_mul, Int.sub_zero] at hk
  rw [← hk]
  exact fits_wrap64 _
theorem mul_there {a b : Int} (hb0 : b ≠ 0) (hf : fits (a * b) = true) : (wrap64 (a * b)).tdiv b = a := by
  rw [w64_in hf]
  exact Int.mul_tdiv_cancel a hb0

theorem below_grow (w : World) (k : Nat) (os : Array Obj) : Below w.heap.size w (Sort.grow (w.drewN k) os) :=
  ⟨rfl, rfl, rfl, by simp [Sort.grow], fun j hj => by simp [Sort.grow, Array.getElem?_append, hj]⟩

end Go.Proofs.YtbghbfgbpdppeaaDoor
