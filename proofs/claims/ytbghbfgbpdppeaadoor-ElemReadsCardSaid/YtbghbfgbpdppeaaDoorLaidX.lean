
/- What the rows' list of seven package-level variables gives a walk (the table of powers of ten, unicode/utf8's two tables, strconv's two errors), that later worlds keep it, and a start that meets it. No condition beyond what each theorem states. -/
import Derived.Test.YtbghbfgbpdppeaaDoorLaidU
import Derived.Stop.LaidErr
namespace Go.Proofs.YtbghbfgbpdppeaaDoor
open Go.ChangeShapes Go.WideShapes Go.ChangeAt Go.RowKit Go.Shelf

def ErrAt (n : String) (W : World) : Prop := ∃ tp p, W.var? Tryd.prog n = some #[.iface tp p]
theorem gRange : Tryd.prog.globalNamed "strconv.ErrRange" = some 1 := by kernel_rfl
theorem gSyntax : Tryd.prog.globalNamed "strconv.ErrSyntax" = some 0 := by kernel_rfl
theorem gRangeType : (Tryd.prog.globals[1]?).map (·.type) = some 96 := by kernel_rfl
theorem gSyntaxType : (Tryd.prog.globals[0]?).map (·.type) = some 96 := by kernel_rfl
theorem cellsES : Tryd.prog.cellsOf 166 = 1 := by kernel_rfl
theorem cellsStr : Tryd.prog.cellsOf 9 = 1 := by kernel_rfl
theorem starE : "*" ++ "errors.errorString" = "*errors.errorString" := by decide
theorem rowE (u : TypeId) (h : Tryd.prog.typeName? 3 u = some "*errors.errorString") : u = 164 :=
  typeName_ptr_named (nm := "errors.errorString") (by rw [starE]; kernel_rfl) (by kernel_rfl) (by decide) u (by rw [starE]; exact h)
theorem ErrAt.below {n : String} {g : Nat} (hg : Tryd.prog.globalNamed n = some g) {W W' : World} (h : ErrAt n W) (hb : Below W.heap.size W W') : ErrAt n W' :=
  let ⟨tp, p, hv⟩ := h
  ⟨tp, p, var?_below hb hg (lt_of_var hg hv) hv⟩

def TabsX (W : World) : Prop := Tabs W ∧ TabsU W ∧ ErrAt "strconv.ErrRange" W ∧ ErrAt "strconv.ErrSyntax" W
theorem TabsX.below {W W' : World} (h : TabsX W) (hb : Below W.heap.size W W') : TabsX W' :=
  ⟨h.1.below hb, h.2.1.below hb, h.2.2.1.below gRange hb, h.2.2.2.below gSyntax hb⟩

abbrev laidLX : List (String × DataW Unit) := [("math/bits.deBruijn32tab", Rows.laid_math_bits_deBruijn32tab), ("math/bits.deBruijn64tab", Rows.laid_math_bits_deBruijn64tab), ("internal/strconv.uint64pow10", Rows.laid_internal_strconv_uint64pow10), ("unicode/utf8.acceptRanges", Rows.laid_unicode_utf8_acceptRanges), ("strconv.ErrRange", Rows.laid_strconv_ErrRange), ("strconv.ErrSyntax", Rows.laid_strconv_ErrSyntax), ("unicode/utf8.first", Rows.laid_unicode_utf8_first)]
theorem tabs_of_laidX {W : World} (h : laidMetH Tryd.prog laidLX W) : TabsX W := by
  have h' : laidMet Tryd.prog laidLX W := h
  refine ⟨pow_of_head h'.tail.tail, ?_, ?_, ?_⟩
  · exact utf8Tabs_of_readsT u8Types u8Extra (first_eq ▸ Lib.laidMet.reads h' (.tail _ (.tail _ (.tail _ (.tail _ (.tail _ (.tail _ (.head _)))))))) (accept_eq ▸ Lib.laidMet.reads h' (.tail _ (.tail _ (.tail _ (.head _)))))
  · obtain ⟨a, s, hv, _⟩ := laid_sentinel h'.tail.tail.tail.tail gRange gRangeType Tryd.underlying96 rowE Tryd.underlying164 Tryd.underlying166 rfl rfl Tryd.underlying9 cellsES cellsStr
    exact ⟨_, _, hv⟩
  · obtain ⟨a, s, hv, _⟩ := laid_sentinel h'.tail.tail.tail.tail.tail gSyntax gSyntaxType Tryd.underlying96 rowE Tryd.underlying164 Tryd.underlying166 rfl rfl Tryd.underlying9 cellsES cellsStr
    exact ⟨_, _, hv⟩

@[reducible] noncomputable def startX (os : Os) (args : Array Value) : World := (World.laidAll Tryd.prog os laidLX).forCall (fun _ _ => 0) ⟨#[], args, []⟩
theorem laid_metX (os : Os) (args : Array Value) : laidMet Tryd.prog laidLX (startX os args).memory := laidMet_laidAll _ (by kernel_rfl) (by kernel_rfl)
theorem startX_vars (os : Os) (args : Array Value) : (startX os args).variablesB Tryd.checked.prog = true := by kernel_rfl
theorem startX_rest (os : Os) (args : Array Value) : ((startX os args).heap.toList.drop Tryd.checked.prog.globals.size).take ((begin Tryd.checked.prog (fun _ _ => 0) default).world.heap.size - Tryd.checked.prog.globals.size) =
      (begin Tryd.checked.prog (fun _ _ => 0) default).world.heap.toList.drop Tryd.checked.prog.globals.size := by kernel_rfl

set_option maxRecDepth 100000 in
theorem witnessX {H : Type} {enc : TypeId × Value → H} (os : Os) {f : FuncId} {fn : Func} {s : OpenSpec} {conds : List PathCond} (args : Array Value) {ds : List (DataW H)} {ps : List MemPlace}
    (hok : Input.okWideB Tryd.checked.prog (startX os args) f ⟨#[], args, []⟩ = true)
    (hx : DataW.whole enc Tryd.prog (startX os args).memory fn.params.toList s.vars false args.toList 8 = some (ds, [], ps))
    (hconds : conds.all (PathCond.test Tryd.prog ⟨fn.params.toList, ds, s.bare.plain.varTypes Tryd.prog, []⟩) = true) (hkk : ∀ k, s.cond = some k → k H (ds ++ []) = true)
    (hsz : s.bare.sizedB enc Tryd.prog fn false (startX os args).memory args 8 = true) :
    ∃ (w : World) (tape : Tape) (i : Input), w.os = os ∧ (w.forCall tape i).Shaped Tryd.checked.prog ∧ i.vars = [] ∧ Input.okWide Tryd.checked.prog (w.forCall tape i) .any w.heap.size f i ∧
      s.preRow enc Tryd.checked.prog fn conds false laidLX (w.forCall tape i).memory i.args ∧ ({ modest := false } : Assume).holds Tryd.checked.prog (lone (Frame.enter Tryd.checked.prog f i.args .normal) [] (w.forCall tape i)) :=
  witness_row_at (enc := enc) (C := Tryd.checked) false (World.laidAll Tryd.prog os laidLX) args (World.laidAll_os _ _ _) (startX_vars os args) (startX_rest os args) hok
    (OpenSpec.preRow_of_cond 8 hx hconds hkk hsz (laid_metX os args))
end Go.Proofs.YtbghbfgbpdppeaaDoor
