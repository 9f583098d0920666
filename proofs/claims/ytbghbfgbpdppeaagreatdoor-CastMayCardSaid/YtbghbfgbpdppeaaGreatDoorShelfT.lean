/-
  DERIVED: THE SHELF's CONTRACTS AT THIS DUMP, IN PLAIN WORDS (tools/lay-plain.mjs out of 'YtbghbfgbpdppeaaGreatDoorShelfT.lean', which tools/lay-shelf.mjs wrote): THE SAME DECLARATIONS UNDER THE SAME NAMES: 'import', 'namespace', 'open', 'def', 'theorem' AND NOTHING ELSE: no command of the shelf's: FOR A HAND-IN. Each laying: the table of numbers ('.._ren') and one theorem, a field a fact of the dump's own or the kernel's comparison; each contract: ONE APPLICATION.
-/
import Derived.Shelf.Strings.SlTrimAscii
import Derived.Ground.NamesProg
import Derived.Test.YtbghbfgbpdppeaaGreatDoorProg
namespace Go.Proofs
open Go.Shelf
def Tryz.lays160_ren : Go.Shelf.Ren := ⟨fun | 160 => 36 | 232 => 56 | 231 => 55 | 227 => 57 | 234 => 59 | 233 => 58 | 236 => 61 | 235 => 60 | 228 => 72 | 271 => 75 | 151 => 74 | 197 => 73 | 120 => 90 | 152 => 89 | 260 => 88 | 137 => 104 | 119 => 105 | 224 => 106 | 225 => 107 | 217 => 115 | 266 => 120 | n => n, fun | 9 => 9 | 4 => 4 | 3 => 3 | 5 => 5 | 117 => 77 | 116 => 76 | 0 => 0 | 124 => 80 | 21 => 21 | 105 => 93 | 46 => 96 | 119 => 126 | 139 => 129 | 138 => 128 | n => n, fun | 3 => 2 | 4 => 3 | n => n⟩
theorem Tryz.lays160 : Go.Proofs.Lays.n160 Tryz.prog Tryz.lays160_ren := {
  mixed := by kernel_rfl
  f119 := Tryz.func105.trans (congrArg some (by kernel_rfl))
  f120 := Tryz.func90.trans (congrArg some (by kernel_rfl))
  f137 := Tryz.func104.trans (congrArg some (by kernel_rfl))
  f151 := Tryz.func74.trans (congrArg some (by kernel_rfl))
  f152 := Tryz.func89.trans (congrArg some (by kernel_rfl))
  f160 := Tryz.func36.trans (congrArg some (by kernel_rfl))
  f197 := Tryz.func73.trans (congrArg some (by kernel_rfl))
  f217 := Tryz.func115.trans (congrArg some (by kernel_rfl))
  f224 := Tryz.func106.trans (congrArg some (by kernel_rfl))
  f225 := Tryz.func107.trans (congrArg some (by kernel_rfl))
  f227 := Tryz.func57.trans (congrArg some (by kernel_rfl))
  f228 := Tryz.func72.trans (congrArg some (by kernel_rfl))
  f231 := Tryz.func55.trans (congrArg some (by kernel_rfl))
  f232 := Tryz.func56.trans (congrArg some (by kernel_rfl))
  f233 := Tryz.func58.trans (congrArg some (by kernel_rfl))
  f234 := Tryz.func59.trans (congrArg some (by kernel_rfl))
  f235 := Tryz.func60.trans (congrArg some (by kernel_rfl))
  f236 := Tryz.func61.trans (congrArg some (by kernel_rfl))
  f260 := Tryz.func88.trans (congrArg some (by kernel_rfl))
  f266 := Tryz.func120.trans (congrArg some (by kernel_rfl))
  f271 := Tryz.func75.trans (congrArg some (by kernel_rfl))
  t0 := Tryz.underlying0
  a0 := Tryz.isAgg0
  z0 := Tryz.sizeOf0
  v0 := Tryz.zeroValue0
  t3 := Tryz.underlying3
  a3 := Tryz.isAgg3
  z3 := Tryz.sizeOf3
  v3 := Tryz.zeroValue3
  t4 := Tryz.underlying4
  a4 := Tryz.isAgg4
  z4 := Tryz.sizeOf4
  v4 := Tryz.zeroValue4
  t5 := Tryz.underlying5
  a5 := Tryz.isAgg5
  z5 := Tryz.sizeOf5
  v5 := Tryz.zeroValue5
  t9 := Tryz.underlying9
  a9 := Tryz.isAgg9
  z9 := Tryz.sizeOf9
  v9 := Tryz.zeroValue9
  t21 := Tryz.underlying21
  a21 := Tryz.isAgg21
  z21 := Tryz.sizeOf21
  v21 := Tryz.zeroValue21
  t46 := Tryz.underlying96
  a46 := Tryz.isAgg96
  z46 := Tryz.sizeOf96
  v46 := Tryz.zeroValue96
  t105 := Tryz.underlying93
  a105 := Tryz.isAgg93
  z105 := Tryz.sizeOf93
  v105 := Tryz.zeroValue93
  t116 := Tryz.underlying76
  a116 := Tryz.isAgg76
  z116 := Tryz.sizeOf76
  t117 := Tryz.underlying77
  a117 := Tryz.isAgg77
  z117 := Tryz.sizeOf77
  v117 := Tryz.zeroValue77
  t119 := Tryz.underlying126
  a119 := Tryz.isAgg126
  z119 := Tryz.sizeOf126
  t124 := Tryz.underlying80
  a124 := Tryz.isAgg80
  z124 := Tryz.sizeOf80
  v124 := Tryz.zeroValue80
  t138 := Tryz.underlying128
  a138 := Tryz.isAgg128
  z138 := Tryz.sizeOf128
  v138 := Tryz.zeroValue128
  t139 := Tryz.underlying129
  a139 := Tryz.isAgg129
  z139 := Tryz.sizeOf129
  v139 := Tryz.zeroValue129
  g3 := by kernel_rfl
  g4 := by kernel_rfl }
open Go.RowKit Go.Lib in
theorem Tryz.strings_Trim_laid (s cutset : ByteArray) (w : World) (hs : s.size ≤ 9223372036854775807) (hcs : cutset.size < 4294967281) (hascii : ∀ (j : Nat) b, cutset.data.toList[j]? = some b → b.toNat < 128) :
    Calls Tryz.prog 36 #[.string s, .string cutset] w fun e w' => e = .returned (.string ⟨(Lib.trimS s.data.toList cutset.data.toList).toArray⟩) ∧ Below w.heap.size w w' := Any.strings_Trim_laid Tryz.lays160 (by kernel_rfl) s cutset w hs hcs hascii
end Go.Proofs
