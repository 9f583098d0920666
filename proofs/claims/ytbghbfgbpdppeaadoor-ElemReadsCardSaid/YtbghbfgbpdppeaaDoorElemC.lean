
/- A number to sixteen: internal/strconv.formatBits at base 16 for numbers below 65536; strconv.FormatInt at base 16. -/
import Derived.Test.YtbghbfgbpdppeaaDoorElemB
import Derived.Test.YtbghbfgbpdppeaaDoorLaidX
import Derived.Lib.IndexBytes
import Derived.Lib.ItoaMem
namespace Go.Proofs.YtbghbfgbpdppeaaDoor
open Go.ChangeShapes Go.WideShapes Go.ChangeAt Go.RowKit
set_option linter.unusedVariables false

def tzs : List Int := [0, 1, 56, 2, 57, 49, 28, 3, 61, 58, 42, 50, 38, 29, 17, 4, 62, 47, 59, 36, 45, 43, 51, 22, 53, 39, 33, 30, 24, 18, 12, 5, 63, 55, 48, 27, 60, 41, 37, 16, 46, 35, 44, 21, 52, 32, 23, 11, 54, 26, 40, 15, 34, 20, 31, 10, 25, 14, 19, 9, 13, 8, 7, 6]
def TzT (W : World) : Prop := Lib.TabIs Tryd.prog W "math/bits.deBruijn64tab" .u8 tzs
theorem gTz : Tryd.prog.globalNamed "math/bits.deBruijn64tab" = some 7 := by kernel_rfl
theorem gTzType : (Tryd.prog.globals[7]?).map (·.type) = some 170 := by kernel_rfl
theorem cellsTz : Tryd.prog.cellsOf 170 = 64 := by kernel_rfl
theorem cellsU8 : Tryd.prog.cellsOf 5 = 1 := by kernel_rfl
theorem TzT.below {W W' : World} (h : TzT W) (hb : Below W.heap.size W W') : TzT W' := var?_below hb gTz (lt_of_var gTz h) h
theorem tz_of_head {W : World} {rest : List (String × DataW Unit)} (h : laidMet Tryd.prog (("math/bits.deBruijn64tab", Rows.laid_math_bits_deBruijn64tab) :: rest) W) : TzT W := by
  unfold TzT
  exact Lib.tabIs_of_head gTz gTzType Tryd.underlying170 Tryd.underlying5 cellsU8 cellsTz h
theorem TzT.at15 {W : World} (h : TzT W) : W.cell? ⟨7, 15, none⟩ = some (.int .u8 4) :=
  Lib.TabIs.cell h gTz 15 (by decide)

theorem isPow16 (w : World) : Calls Tryd.prog 123 #[.int .i64 16] w fun e w' => e = .returned (.bool true) ∧ w = w' := by
  go_enter Tryd.func123, Tryd.ntmps123
  go_wp2
  go_ret
  exact ⟨rfl, rfl⟩
theorem tz64_16 (w : World) (h : TzT w) : Calls Tryd.prog 133 #[.int .u64 16] w fun e w' => e = .returned (.int .i64 4) ∧ w = w' := by
  have hc := h.at15
  have hk : IntKind.u64.wrap (bits BinOp.and IntKind.u64 16 (IntKind.u64.wrap (-16)) * 285870213051353865) / 288230376151711744 = 15 := by decide +kernel
  clear h
  go_enter Tryd.func133, Tryd.ntmps133
  go_wp2
  go_ret
  exact ⟨rfl, rfl⟩
theorem tz_16 (w : World) (h : TzT w) : Calls Tryd.prog 124 #[.int .u64 16] w fun e w' => e = .returned (.int .i64 4) ∧ w = w' := by
  have C := Lib.hid (tz64_16 w h)
  clear h
  go_enter Tryd.func124, Tryd.ntmps124
  go_wp2_with (go_at_call 133; (with_reducible refine C.out.mono ?_); rintro e w' ⟨rfl, rfl⟩)
  go_ret
  exact ⟨rfl, rfl⟩
end Go.Proofs.YtbghbfgbpdppeaaDoor
