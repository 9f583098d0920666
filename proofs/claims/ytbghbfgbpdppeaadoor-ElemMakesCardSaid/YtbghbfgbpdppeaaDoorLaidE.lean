
/- What the row's list of package-level variables gives the walks of layer 3: the table of trailing noughts. -/
import Derived.Test.YtbghbfgbpdppeaaDoorElemC
namespace Go.Proofs.YtbghbfgbpdppeaaDoor
open Go.ChangeShapes Go.WideShapes Go.ChangeAt Go.RowKit

abbrev laidLE : List (String × DataW Unit) := laidL
theorem tabs_of_laidE {W : World} (h : laidMetH Tryd.prog laidLE W) : TzT W :=
  tz_of_head (show laidMet Tryd.prog laidL W from h).tail
set_option maxRecDepth 100000 in
theorem witnessE {H : Type} {enc : TypeId × Value → H} (os : Os) {f : FuncId} {fn : Func} {s : OpenSpec} {conds : List PathCond} (args : Array Value) {ds : List (DataW H)} {ps : List MemPlace}
    (hok : Input.okWideB Tryd.checked.prog (start os args) f ⟨#[], args, []⟩ = true)
    (hx : DataW.whole enc Tryd.prog (start os args).memory fn.params.toList s.vars false args.toList 8 = some (ds, [], ps))
    (hconds : conds.all (PathCond.test Tryd.prog ⟨fn.params.toList, ds, s.bare.plain.varTypes Tryd.prog, []⟩) = true) (hkk : ∀ k, s.cond = some k → k H (ds ++ []) = true)
    (hsz : s.bare.sizedB enc Tryd.prog fn false (start os args).memory args 8 = true) :
    ∃ (w : World) (tape : Tape) (i : Input), w.os = os ∧ (w.forCall tape i).Shaped Tryd.checked.prog ∧ i.vars = [] ∧ Input.okWide Tryd.checked.prog (w.forCall tape i) .any w.heap.size f i ∧
      s.preRow enc Tryd.checked.prog fn conds false laidLE (w.forCall tape i).memory i.args ∧ ({ modest := false } : Assume).holds Tryd.checked.prog (lone (Frame.enter Tryd.checked.prog f i.args .normal) [] (w.forCall tape i)) :=
  witness (enc := enc) os args hok hx hconds hkk hsz
end Go.Proofs.YtbghbfgbpdppeaaDoor
