/-
  DERIVED: THE SHELF's CONTRACTS AT THIS DUMP, IN PLAIN WORDS (tools/lay-plain.mjs out of 'YtcokkmjfdnigpaaDoorShelfItoa.lean', which tools/lay-shelf.mjs wrote): THE SAME DECLARATIONS UNDER THE SAME NAMES: 'import', 'namespace', 'open', 'def', 'theorem' AND NOTHING ELSE: no command of the shelf's: FOR A HAND-IN. Each laying: the table of numbers ('.._ren') and one theorem, a field a fact of the dump's own or the kernel's comparison; each contract: ONE APPLICATION.
-/
import Derived.Shelf.Utf8.RuneCount
import Derived.Shelf.Strconv.Itoa0
import Derived.Shelf.Strconv.Itoa1
import Derived.Shelf.LaysM
import Derived.Shelf.Strconv.Itoa2
import Derived.Shelf.Strconv.Itoa3
import Derived.Shelf.Unicode.Decode
import Derived.Shelf.Strings.RuneCount
import Derived.Shelf.Unicode.DecodeSlow
import Derived.Shelf.Unicode.DecodeAny
import Derived.Test.YtcokkmjfdnigpaaDoorProg
namespace Go.Proofs
open Go.Shelf
def Tryd.lays171_ren : Go.Shelf.Ren := ⟨fun | 171 => 39 | 243 => 45 | 246 => 48 | 283 => 49 | 284 => 50 | 285 => 51 | 286 => 52 | 129 => 54 | 317 => 53 | 318 => 55 | 319 => 56 | 320 => 57 | 337 => 58 | 338 => 59 | n => n, fun | 3 => 3 | 9 => 9 | 2 => 2 | 4 => 4 | 171 => 69 | 0 => 0 | 53 => 68 | 37 => 32 | 5 => 5 | 173 => 72 | 212 => 75 | 51 => 76 | 20 => 20 | 213 => 77 | 46 => 66 | 232 => 80 | 233 => 81 | n => n, fun | 17 => 2 | 18 => 3 | 19 => 4 | n => n⟩
theorem Tryd.lays171 : Go.Proofs.Lays.n171 Tryd.prog Tryd.lays171_ren := {
  mixed := by kernel_rfl
  f129 := Tryd.func54.trans (congrArg some (by kernel_rfl))
  f171 := Tryd.func39.trans (congrArg some (by kernel_rfl))
  f243 := Tryd.func45.trans (congrArg some (by kernel_rfl))
  f246 := Tryd.func48.trans (congrArg some (by kernel_rfl))
  f283 := Tryd.func49.trans (congrArg some (by kernel_rfl))
  f284 := Tryd.func50.trans (congrArg some (by kernel_rfl))
  f285 := Tryd.func51.trans (congrArg some (by kernel_rfl))
  f286 := Tryd.func52.trans (congrArg some (by kernel_rfl))
  f317 := Tryd.func53.trans (congrArg some (by kernel_rfl))
  f318 := Tryd.func55.trans (congrArg some (by kernel_rfl))
  f319 := Tryd.func56.trans (congrArg some (by kernel_rfl))
  f320 := Tryd.func57.trans (congrArg some (by kernel_rfl))
  f337 := Tryd.func58.trans (congrArg some (by kernel_rfl))
  f338 := Tryd.func59.trans (congrArg some (by kernel_rfl))
  t0 := Tryd.underlying0
  a0 := Tryd.isAgg0
  z0 := Tryd.sizeOf0
  v0 := Tryd.zeroValue0
  t2 := Tryd.underlying2
  a2 := Tryd.isAgg2
  z2 := Tryd.sizeOf2
  v2 := Tryd.zeroValue2
  t3 := Tryd.underlying3
  a3 := Tryd.isAgg3
  z3 := Tryd.sizeOf3
  v3 := Tryd.zeroValue3
  t4 := Tryd.underlying4
  a4 := Tryd.isAgg4
  z4 := Tryd.sizeOf4
  v4 := Tryd.zeroValue4
  t5 := Tryd.underlying5
  a5 := Tryd.isAgg5
  z5 := Tryd.sizeOf5
  v5 := Tryd.zeroValue5
  t9 := Tryd.underlying9
  a9 := Tryd.isAgg9
  z9 := Tryd.sizeOf9
  v9 := Tryd.zeroValue9
  t20 := Tryd.underlying20
  a20 := Tryd.isAgg20
  z20 := Tryd.sizeOf20
  v20 := Tryd.zeroValue20
  t37 := Tryd.underlying32
  a37 := Tryd.isAgg32
  z37 := Tryd.sizeOf32
  v37 := Tryd.zeroValue32
  t46 := Tryd.underlying66
  a46 := Tryd.isAgg66
  z46 := Tryd.sizeOf66
  v46 := Tryd.zeroValue66
  t51 := Tryd.underlying76
  a51 := Tryd.isAgg76
  z51 := Tryd.sizeOf76
  v51 := Tryd.zeroValue76
  t53 := Tryd.underlying68
  a53 := Tryd.isAgg68
  z53 := Tryd.sizeOf68
  v53 := Tryd.zeroValue68
  t171 := Tryd.underlying69
  a171 := Tryd.isAgg69
  z171 := Tryd.sizeOf69
  v171 := Tryd.zeroValue69
  t173 := Tryd.underlying72
  a173 := Tryd.isAgg72
  z173 := Tryd.sizeOf72
  v173 := Tryd.zeroValue72
  t212 := Tryd.underlying75
  a212 := Tryd.isAgg75
  z212 := Tryd.sizeOf75
  v212 := Tryd.zeroValue75
  t213 := Tryd.underlying77
  a213 := Tryd.isAgg77
  z213 := Tryd.sizeOf77
  t232 := Tryd.underlying80
  a232 := Tryd.isAgg80
  z232 := Tryd.sizeOf80
  v232 := Tryd.zeroValue80
  t233 := Tryd.underlying81
  a233 := Tryd.isAgg81
  z233 := Tryd.sizeOf81
  v233 := Tryd.zeroValue81
  g17 := by kernel_rfl
  g18 := by kernel_rfl
  g19 := by kernel_rfl }
open Go.RowKit Go.Sort Go.Lib in
/-- THE ROAD WITHOUT THE TABLE: 0 <= i < 100: NO PREMISE ON THE WORLD, AND THE WORLD IS AS IT WAS: a row that keeps its argument in that range need list no table ('laid = []'). (LAID: no walk: one application.) -/
theorem Tryd.strconv_Itoa_small (i : Nat) (hi : i < 100) (w : World) :
    Calls Tryd.prog 39 #[.int .i64 i] w fun e w' => e = .returned (.string ⟨(Lib.decDigits i).toArray⟩) ∧ w' = w := Any.strconv_Itoa_small Tryd.lays171 i hi w
end Go.Proofs
