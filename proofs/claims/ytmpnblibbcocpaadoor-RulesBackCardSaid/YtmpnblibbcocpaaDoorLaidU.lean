
/- What the rows' list of package-level variables (the two tables of unicode/utf8) gives a walk, that later worlds keep it, and a start that meets it. No condition beyond what each theorem states. -/
import Derived.Test.YtmpnblibbcocpaaDoorFrame
import Derived.Test.YtmpnblibbcocpaaDoorTie
import Derived.Deep.DeepHandedRow
import Derived.Deep.DeepWitnessRowRef
import Derived.Lib.LaidTab
import Derived.LaidMore
import Derived.Stop.LaidErr
import Derived.WalkSmall
import Derived.Test.YtmpnblibbcocpaaDoorTabsU
import Derived.Lib.LaidU8T
import Derived.PinnedBridge
import Derived.Lay
namespace Go.Proofs.YtmpnblibbcocpaaDoor
open Go.ChangeShapes Go.WideShapes Go.ChangeAt Go.RowKit Go.Shelf

theorem accept_eq : (Rows.laid_unicode_utf8_acceptRanges : DataW Unit) = Lib.acceptData := by kernel_rfl
theorem first_eq : Rows.laid_unicode_utf8_first = Lib.firstData := Pinned.utf8First_eq
theorem u8Types : U8Types Tryd.prog Tryd.lays197_ren := { Tryd.lays197 with }
theorem u8Extra : U8Extra Tryd.prog Tryd.lays197_ren := ⟨by kernel_rfl, by kernel_rfl, by kernel_rfl, by kernel_rfl, by kernel_rfl, by kernel_rfl, by kernel_rfl⟩

abbrev laidLU : List (String × DataW Unit) := [("unicode/utf8.acceptRanges", Rows.laid_unicode_utf8_acceptRanges), ("unicode/utf8.first", Rows.laid_unicode_utf8_first)]
theorem tabs_of_laidU {W : World} (h : laidMetH Tryd.prog laidLU W) : TabsU W := by
  have h' : laidMet Tryd.prog laidLU W := h
  exact utf8Tabs_of_readsT u8Types u8Extra (first_eq ▸ Lib.laidMet.reads h' (.tail _ (.head _))) (accept_eq ▸ Lib.laidMet.reads h' (.head _))

@[reducible] noncomputable def startU (os : Os) (args : Array Value) : World := (World.laidAll Tryd.prog os laidLU).forCall (fun _ _ => 0) ⟨#[], args, []⟩
theorem laid_metU (os : Os) (args : Array Value) : laidMet Tryd.prog laidLU (startU os args).memory := laidMet_laidAll _ (by kernel_rfl) (by kernel_rfl)
theorem startU_vars (os : Os) (args : Array Value) : (startU os args).variablesB Tryd.checked.prog = true := by kernel_rfl
theorem startU_rest (os : Os) (args : Array Value) : ((startU os args).heap.toList.drop Tryd.checked.prog.globals.size).take ((begin Tryd.checked.prog (fun _ _ => 0) default).world.heap.size - Tryd.checked.prog.globals.size) =
      (begin Tryd.checked.prog (fun _ _ => 0) default).world.heap.toList.drop Tryd.checked.prog.globals.size := by kernel_rfl

set_option maxRecDepth 100000 in
theorem witnessU {H : Type} {enc : TypeId × Value → H} (os : Os) {f : FuncId} {fn : Func} {s : OpenSpec} {conds : List PathCond} (args : Array Value) {ds : List (DataW H)} {ps : List MemPlace}
    (hok : Input.okWideB Tryd.checked.prog (startU os args) f ⟨#[], args, []⟩ = true)
    (hx : DataW.whole enc Tryd.prog (startU os args).memory fn.params.toList s.vars false args.toList 8 = some (ds, [], ps))
    (hconds : conds.all (PathCond.test Tryd.prog ⟨fn.params.toList, ds, s.bare.plain.varTypes Tryd.prog, []⟩) = true) (hkk : ∀ k, s.cond = some k → k H (ds ++ []) = true)
    (hsz : s.bare.sizedB enc Tryd.prog fn false (startU os args).memory args 8 = true) :
    ∃ (w : World) (tape : Tape) (i : Input), w.os = os ∧ (w.forCall tape i).Shaped Tryd.checked.prog ∧ i.vars = [] ∧ Input.okWide Tryd.checked.prog (w.forCall tape i) .any w.heap.size f i ∧
      s.preRow enc Tryd.checked.prog fn conds false laidLU (w.forCall tape i).memory i.args ∧ ({ modest := false } : Assume).holds Tryd.checked.prog (lone (Frame.enter Tryd.checked.prog f i.args .normal) [] (w.forCall tape i)) :=
  witness_row_at (enc := enc) (C := Tryd.checked) false (World.laidAll Tryd.prog os laidLU) args (World.laidAll_os _ _ _) (startU_vars os args) (startU_rest os args) hok
    (OpenSpec.preRow_of_cond 8 hx hconds hkk hsz (laid_metU os args))
end Go.Proofs.YtmpnblibbcocpaaDoor
