/- RulesBack: the statement, whole: for every input the call returns true and each argument reads behind it as it did. The package-level variables that the row lists are tied to the program's text by the given tie. -/
import Derived.Test.YtmpnblibbcocpaaDoorRulesBackWalk
import Derived.Test.YtmpnblibbcocpaaDoorFrame
import Derived.Lib.SmallJoins
import Derived.Test.YtmpnblibbcocpaaDoorRrdOpen
import Derived.Test.YtmpnblibbcocpaaDoorCards
import Derived.Test.YtmpnblibbcocpaaDoorTie
import Derived.Test.YtmpnblibbcocpaaDoorLaidU
import Derived.Deep.DeepHandedRow
import Derived.SevenTiedAt
namespace Go.Proofs.YtmpnblibbcocpaaDoor.pRulesBack
open Go.ChangeShapes Go.WideShapes Go.ChangeAt Go.RowKit
set_option linter.unusedVariables false

theorem own : ownKnob Tryd.prog.godebug = none := by kernel_rfl
theorem laidOut : laidOutB Tryd.prog = true := by kernel_rfl
theorem rowedAll : rowed Tryd.prog Tryd.f4.params.toList = true := by kernel_rfl
theorem laid_eq : Rows.rulesBackRow.laid = laidLU := rfl

set_option maxRecDepth 100000 in
theorem contract (H : Type) (enc : TypeId × Value → H) (W : World) (base : Nat) (args : Array Value) (ds gs : List (DataW H)) (before : List MemPlace)
    (hval0 : ∀ (j : Nat) t v, Tryd.f4.params[j]? = some t → args[j]? = some v → Value.okWide Tryd.prog W .any base t v)
    (hW : DataW.Whole enc Tryd.prog Tryd.f4.params.toList Rows.rulesBackSpec.vars false W args.toList ds gs before) (hsz : (DataW.weightsEach Tryd.prog (Tryd.f4.params.toList ++ (OpenSpec.ofChange Rows.rulesBackSpec).bare.plain.varTypes Tryd.prog) (ds ++ gs)).all (· ≤ reachBytes) = true) (hL : laidMetH Tryd.prog laidLU W) :
    Calls Tryd.prog 4 args W fun e W' => ∃ v, e = .returned v ∧ Rows.rulesBackSpec.post enc Tryd.prog Tryd.f4 false true false false W args v W' := by
  have hval : ∀ (j : Nat) t v, Tryd.f4.params[j]? = some t → args[j]? = some v → Value.okWide Tryd.prog W .any base t v := hval0
  have hW' := hW
  obtain ⟨p, q, hA0, hV, rfl, hfz, hnd⟩ := hW
  have hA : DataW.TrodAll enc Tryd.prog W 0 (fun _ => true) true Tryd.f4.params.toList args.toList ds p := hA0
  rw [Tryd.params4] at hA hval hsz
  obtain ⟨v0, vs0, d0, ds0, p0, q0, hargs, rfl, rfl, h0, r0⟩ := trodAll_cons hA
  obtain ⟨rfl, rfl, rfl⟩ := trodAll_nil r0
  obtain rfl : args = #[v0] := by cases args; simp_all
  obtain ⟨rfl, rfl⟩ := trodVars_none hV
  have hs0 : ∀ n ∈ d0.weights Tryd.prog 27, n ≤ reachBytes := fun n hn => by
    have := List.all_eq_true.1 hsz n (by simp only [List.cons_append, DataW.weightsEach]; exact List.mem_append.2 (.inl hn))
    simpa using this
  obtain ⟨z0, r0, b0⟩ := rrd_of_trod (hval 0 27 v0 rfl rfl) h0 hs0
  have hT := tabs_of_laidU hL
  clear hA0 hval0
  refine (walk_RulesBack v0 z0 W r0 b0 hT).mono fun e W' ⟨he, hb⟩ => ?_
  subst he
  exact ⟨_, rfl, law_post laidOut rowedAll rfl hW' rfl rfl Tryd.underlying4 hb⟩

set_option maxRecDepth 100000 in
theorem lifted (os : Os) (started : os.Started) (H : Type) (enc : TypeId × Value → H) (F : Stop.Interp) :
    ReturnsInHanded {} Tryd.checked os 4 .any ((OpenSpec.ofChange Rows.rulesBackSpec).preRow enc Tryd.prog Tryd.f4 [] false laidLU) (((OpenSpec.ofChange Rows.rulesBackSpec).at F).post enc Tryd.prog Tryd.f4 false true false false) := by
  refine returnsInHanded_of_row (C := Tryd.checked) (s := OpenSpec.ofChange Rows.rulesBackSpec) own started (by kernel_rfl) Tryd.func4
    (witnessU (enc := enc) os #[.slice none 0 0] (ds := [.nil]) (ps := []) (by kernel_rfl) (by kernel_rfl) (by kernel_rfl) (fun _ h => by cases h) (by kernel_rfl)) ?_
  intro W base args ds gs before hval hW _ _ hsz hL _ _
  exact contract H enc W base args ds gs before hval hW hsz hL

theorem said : Rows.RulesBackSaid :=
  OpenClaim.holds_of_cond 4 Tryd.f4 rfl rfl rfl rfl rfl rfl rfl ⟨rfl, rfl, rfl, rfl, rfl⟩ rfl rfl rfl rfl rfl (by kernel_rfl) Tryd.func4 (by kernel_rfl)
    (of_decide_eq_true (by kernel_rfl)) (by unfold Func.isWrapper; first | (rw [if_pos (by decide +kernel)]; kernel_rfl) | (rw [if_neg (by decide +kernel)]; exact ⟨rfl, rfl⟩))
    (fun os started H enc _ F => by rw [OpenClaim.pre_eq_preRow, laid_eq]; exact lifted os started H enc F)

theorem plain (f : FuncId) (fn : Func) (hf : Tryd.pinned.checked.prog.funcNamed "umlaut/umlautlaw6.RulesBack" = some f) (hfn : Tryd.pinned.checked.prog.funcs[f]? = some fn) :
    false = Tryd.pinned.checked.prog.looks [] ∧ ∀ (j : Nat) t, fn.params[j]? = some t → Tryd.pinned.checked.prog.wantsStandIn t = false := by
  obtain rfl : f = 4 := Option.some.inj ((show Tryd.prog.funcNamed "umlaut/umlautlaw6.RulesBack" = some 4 by kernel_rfl).symm.trans hf) |>.symm
  obtain rfl : fn = Tryd.f4 := (Option.some.inj (Tryd.func4.symm.trans hfn)).symm
  refine ⟨by kernel_rfl, fun j t ht => ?_⟩
  have hall : (Tryd.f4.params.toList.all fun u => !Tryd.prog.wantsStandIn u) = true := by kernel_rfl
  have hm : t ∈ Tryd.f4.params.toList := Array.mem_def.1 (Array.mem_of_getElem? ht)
  have h1 := List.all_eq_true.1 hall t hm
  show Tryd.prog.wantsStandIn t = false
  cases h2 : Tryd.prog.wantsStandIn t
  · rfl
  · rw [h2] at h1; cases h1

/-- the card -/
theorem card : Rows.RulesBackCardSaid :=
  Claim7.holds_tied_plain_at .later [] _ _ _ _ said (fun _ h => by cases h) (by kernel_rfl) (fun _ h => by cases h) rulesBack_row_tie rfl ⟨rfl, rfl⟩ (by kernel_rfl) rfl plain (by kernel_rfl)
#print axioms card
end Go.Proofs.YtmpnblibbcocpaaDoor.pRulesBack
