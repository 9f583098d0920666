
/- What the row's list of package-level variables gives a walk (the table of powers of ten), that later worlds keep it, and a start that meets it. No condition beyond what each theorem states. -/
import Derived.Test.YtbghbfgbpdppeaaDoorFrame
import Derived.Test.YtbghbfgbpdppeaaDoorTie
import Derived.Deep.DeepHandedRow
import Derived.Deep.DeepWitnessRowRef
import Derived.Lib.LaidTab
import Derived.Lib.ItoaNum
import Derived.LaidMore
import Derived.Stop.LaidErr
import Derived.WalkSmall
namespace Go.Proofs.YtbghbfgbpdppeaaDoor
open Go.ChangeShapes Go.WideShapes Go.ChangeAt Go.RowKit

def Tabs (W : World) : Prop := Lib.TabIs Tryd.prog W "internal/strconv.uint64pow10" .u64 Lib.pow10Tab
theorem gPow : Tryd.prog.globalNamed "internal/strconv.uint64pow10" = some 5 := by kernel_rfl
theorem gPowType : (Tryd.prog.globals[5]?).map (·.type) = some 160 := by kernel_rfl
theorem cellsPow : Tryd.prog.cellsOf 160 = 20 := by kernel_rfl
theorem cellsU64 : Tryd.prog.cellsOf 86 = 1 := by kernel_rfl
def pows : List Int := [1, 10, 100, 1000, 10000, 100000, 1000000, 10000000, 100000000, 1000000000, 10000000000, 100000000000, 1000000000000, 10000000000000, 100000000000000, 1000000000000000, 10000000000000000, 100000000000000000, 1000000000000000000, 10000000000000000000]
theorem pows_eq : Lib.pow10Tab = pows := by decide +kernel

theorem lt_of_var {P : Program} {W : World} {n : String} {g : Nat} {cs : Array Value} (hg : P.globalNamed n = some g) (hv : W.var? P n = some cs) : g < W.heap.size := by
  unfold World.var? at hv
  rw [hg] at hv
  simp only [Option.bind_some] at hv
  cases hh : W.heap[g]? with
  | none => rw [hh] at hv; cases hv
  | some o => exact (Array.getElem?_eq_some_iff.1 hh).1

theorem Tabs.below {W W' : World} (h : Tabs W) (hb : Below W.heap.size W W') : Tabs W' :=
  var?_below hb gPow (lt_of_var gPow h) h
theorem Tabs.lt {W : World} (h : Tabs W) : 5 < W.heap.size := lt_of_var gPow h
theorem Tabs.to {B : Nat} {W W' : World} (h : Tabs W) (hb : Below B W W') (hB : W.heap.size ≤ B) : Tabs W' :=
  h.below (hb.mono hB)
theorem Tabs.drewN {W : World} (h : Tabs W) (k : Nat) : Tabs (W.drewN k) := h

theorem pow_of_head {W : World} {rest : List (String × DataW Unit)} (h : laidMet Tryd.prog (("internal/strconv.uint64pow10", Rows.laid_internal_strconv_uint64pow10) :: rest) W) : Tabs W := by
  unfold Tabs
  rw [pows_eq]
  exact Lib.tabIs_of_head gPow gPowType Tryd.underlying160 Tryd.underlying86 cellsU64 cellsPow h

abbrev laidL : List (String × DataW Unit) := [("math/bits.deBruijn32tab", Rows.laid_math_bits_deBruijn32tab), ("math/bits.deBruijn64tab", Rows.laid_math_bits_deBruijn64tab), ("internal/strconv.uint64pow10", Rows.laid_internal_strconv_uint64pow10)]
theorem tabs_of_laid {W : World} (h : laidMetH Tryd.prog laidL W) : Tabs W :=
  pow_of_head (show laidMet Tryd.prog laidL W from h).tail.tail

@[reducible] noncomputable def start (os : Os) (args : Array Value) : World := (World.doorLaid Tryd.prog 400 os).forCall (fun _ _ => 0) ⟨#[], args, []⟩
theorem laid_met (os : Os) (args : Array Value) : laidMet Tryd.prog laidL (start os args).memory := laidMet_of_run' 8 (by kernel_rfl) (by kernel_rfl)
theorem start_vars (os : Os) (args : Array Value) : (start os args).variablesB Tryd.checked.prog = true := by kernel_rfl
theorem start_rest (os : Os) (args : Array Value) : ((start os args).heap.toList.drop Tryd.checked.prog.globals.size).take ((begin Tryd.checked.prog (fun _ _ => 0) default).world.heap.size - Tryd.checked.prog.globals.size) =
      (begin Tryd.checked.prog (fun _ _ => 0) default).world.heap.toList.drop Tryd.checked.prog.globals.size := by kernel_rfl

set_option maxRecDepth 100000 in
theorem witness {H : Type} {enc : TypeId × Value → H} (os : Os) {f : FuncId} {fn : Func} {s : OpenSpec} {conds : List PathCond} (args : Array Value) {ds : List (DataW H)} {ps : List MemPlace}
    (hok : Input.okWideB Tryd.checked.prog (start os args) f ⟨#[], args, []⟩ = true)
    (hx : DataW.whole enc Tryd.prog (start os args).memory fn.params.toList s.vars false args.toList 8 = some (ds, [], ps))
    (hconds : conds.all (PathCond.test Tryd.prog ⟨fn.params.toList, ds, s.bare.plain.varTypes Tryd.prog, []⟩) = true) (hkk : ∀ k, s.cond = some k → k H (ds ++ []) = true)
    (hsz : s.bare.sizedB enc Tryd.prog fn false (start os args).memory args 8 = true) :
    ∃ (w : World) (tape : Tape) (i : Input), w.os = os ∧ (w.forCall tape i).Shaped Tryd.checked.prog ∧ i.vars = [] ∧ Input.okWide Tryd.checked.prog (w.forCall tape i) .any w.heap.size f i ∧
      s.preRow enc Tryd.checked.prog fn conds false laidL (w.forCall tape i).memory i.args ∧ ({ modest := false } : Assume).holds Tryd.checked.prog (lone (Frame.enter Tryd.checked.prog f i.args .normal) [] (w.forCall tape i)) :=
  witness_row_at (enc := enc) (C := Tryd.checked) false (World.doorLaid Tryd.prog 400 os) args rfl (start_vars os args) (start_rest os args) hok
    (OpenSpec.preRow_of_cond 8 hx hconds hkk hsz (laid_met os args))
end Go.Proofs.YtbghbfgbpdppeaaDoor
