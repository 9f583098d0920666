
/- What the rows' list gives the walks that read an element's text; strings.Split where the variable that it reads stands. -/
import Derived.Test.YtbghbfgbpdppeaaDoorLaidX
import Derived.Test.YtbghbfgbpdppeaaDoorElemC
import Derived.Test.YtbghbfgbpdppeaaDoorShelfE
namespace Go.Proofs.YtbghbfgbpdppeaaDoor
open Go.ChangeShapes Go.WideShapes Go.ChangeAt Go.RowKit
set_option linter.unusedVariables false

/-- a variable of the library's own that strings.Split reads holds a number -/
def SplT (W : World) : Prop := ∃ m, W.cell? ⟨Tryd.laysM146_ren.g 1, 0, none⟩ = some (.int .i64 m)
theorem SplT.below {W W' : World} (h : SplT W) (hb : Below W.heap.size W W') : SplT W' :=
  let ⟨m, hm⟩ := h
  ⟨m, (hb.cell (p := ⟨Tryd.laysM146_ren.g 1, 0, none⟩) (block_lt_of_cell hm)).trans hm⟩
theorem split_any (s sep : ByteArray) (w : World) (h : SplT w) (hs : s.size < 4294967281) (h1 : 1 ≤ sep.size) :
    Calls Tryd.prog 52 #[.string s, .string sep] w fun e w' => e = .returned (.slice (some ⟨w.heap.size, 0, none⟩) (Lib.countB s sep + 1) (Lib.countB s sep + 1)) ∧ w' = w.alloc (.cells ((Lib.splitB sep 0 (Lib.countB s sep) s).map Value.string).toArray 9) :=
  let ⟨m, hm⟩ := h
  Any.strings_Split { Tryd.laysM146 with } Tryd.laysM146.i9 s sep m w hs hm h1

def TabsW (W : World) : Prop := TzT W ∧ TabsX W ∧ SplT W
theorem TabsW.below {W W' : World} (h : TabsW W) (hb : Below W.heap.size W W') : TabsW W' := ⟨h.1.below hb, h.2.1.below hb, h.2.2.below hb⟩
abbrev laidLW : List (String × DataW Unit) := laidLX
theorem tabs_of_laidW {W : World} (h : laidMetH Tryd.prog laidLW W) (hsh : W.ShapedOpen Tryd.prog) : TabsW W :=
  ⟨tz_of_head (show laidMet Tryd.prog laidLX W from h).tail, tabs_of_laidX h, Tryd.laysM146.s1_3 W hsh⟩
set_option maxRecDepth 100000 in
theorem witnessW {H : Type} {enc : TypeId × Value → H} (os : Os) {f : FuncId} {fn : Func} {s : OpenSpec} {conds : List PathCond} (args : Array Value) {ds : List (DataW H)} {ps : List MemPlace}
    (hok : Input.okWideB Tryd.checked.prog (startX os args) f ⟨#[], args, []⟩ = true)
    (hx : DataW.whole enc Tryd.prog (startX os args).memory fn.params.toList s.vars false args.toList 8 = some (ds, [], ps))
    (hconds : conds.all (PathCond.test Tryd.prog ⟨fn.params.toList, ds, s.bare.plain.varTypes Tryd.prog, []⟩) = true) (hkk : ∀ k, s.cond = some k → k H (ds ++ []) = true)
    (hsz : s.bare.sizedB enc Tryd.prog fn false (startX os args).memory args 8 = true) :
    ∃ (w : World) (tape : Tape) (i : Input), w.os = os ∧ (w.forCall tape i).Shaped Tryd.checked.prog ∧ i.vars = [] ∧ Input.okWide Tryd.checked.prog (w.forCall tape i) .any w.heap.size f i ∧
      s.preRow enc Tryd.checked.prog fn conds false laidLW (w.forCall tape i).memory i.args ∧ ({ modest := false } : Assume).holds Tryd.checked.prog (lone (Frame.enter Tryd.checked.prog f i.args .normal) [] (w.forCall tape i)) :=
  witnessX (enc := enc) os args hok hx hconds hkk hsz
end Go.Proofs.YtbghbfgbpdppeaaDoor
