/- CastMay: the statement, whole: for every input the call returns true and each argument reads behind it as it did. The package-level variables that the row lists are tied to the program's text by the given tie. -/
import Derived.Test.YtbghbfgbpdppeaaGreatDoorCastMayWalk
import Derived.Test.YtbghbfgbpdppeaaGreatDoorFrame
import Derived.Lib.SmallJoins
import Derived.Test.YtbghbfgbpdppeaaGreatDoorCards
import Derived.Test.YtbghbfgbpdppeaaGreatDoorTie
import Derived.Test.YtbghbfgbpdppeaaGreatDoorLaidX
import Derived.Deep.DeepHandedRow
import Derived.SevenTiedAt
namespace Go.Proofs.YtbghbfgbpdppeaaGreatDoor.pCastMay
open Go.ChangeShapes Go.WideShapes Go.ChangeAt Go.RowKit
set_option linter.unusedVariables false

theorem own : ownKnob Tryz.prog.godebug = none := by kernel_rfl
theorem laidOut : laidOutB Tryz.prog = true := by kernel_rfl
theorem rowedAll : rowed Tryz.prog Tryz.f4.params.toList = true := by kernel_rfl
theorem laid_eq : Rows.castMayRow.laid = laidLX := rfl

set_option maxRecDepth 100000 in
theorem contract (H : Type) (enc : TypeId × Value → H) (W : World) (base : Nat) (args : Array Value) (ds gs : List (DataW H)) (before : List MemPlace)
    (hval0 : ∀ (j : Nat) t v, Tryz.f4.params[j]? = some t → args[j]? = some v → Value.okWide Tryz.prog W .any base t v)
    (hW : DataW.Whole enc Tryz.prog Tryz.f4.params.toList Rows.castMaySpec.vars false W args.toList ds gs before) (hL : laidMetH Tryz.prog laidLX W) :
    Calls Tryz.prog 4 args W fun e W' => ∃ v, e = .returned v ∧ Rows.castMaySpec.post enc Tryz.prog Tryz.f4 false true false false W args v W' := by
  have hval : ∀ (j : Nat) t v, Tryz.f4.params[j]? = some t → args[j]? = some v → Value.okWide Tryz.prog W .any base t v := hval0
  have hW' := hW
  obtain ⟨p, q, hA0, hV, rfl, hfz, hnd⟩ := hW
  have hA : DataW.TrodAll enc Tryz.prog W 0 (fun _ => true) true Tryz.f4.params.toList args.toList ds p := hA0
  rw [Tryz.params4] at hA hval
  obtain ⟨v0, vs0, d0, ds0, p0, q0, hargs, rfl, rfl, h0, r0⟩ := trodAll_cons hA
  obtain ⟨v1, vs1, d1, ds1, p1, q1, rfl, rfl, rfl, h1, r1⟩ := trodAll_cons r0
  obtain ⟨v2, vs2, d2, ds2, p2, q2, rfl, rfl, rfl, h2, r2⟩ := trodAll_cons r1
  obtain ⟨rfl, rfl, rfl⟩ := trodAll_nil r2
  obtain rfl : args = #[v0, v1, v2] := by cases args; simp_all
  obtain ⟨rfl, rfl⟩ := trodVars_none hV
  obtain ⟨a0, rfl, rfl, rfl, w0⟩ := open_int Tryz.underlying3 (hval 0 3 v0 rfl rfl) h0
  obtain ⟨a1, rfl, rfl, rfl, w1⟩ := open_int Tryz.underlying3 (hval 1 3 v1 rfl rfl) h1
  obtain ⟨c20, c21, c22, y20, y21, y22, m2, rfl, rfl, rfl, g20, g21, g22⟩ := Joins.open_agg3 Tryz.underlying24 (by kernel_rfl) (by kernel_rfl) (hval 2 24 v2 rfl rfl) h2
  obtain ⟨k2, u20, rfl, wk2⟩ := DataW.trod_int Tryz.underlying3 g20
  obtain ⟨n2, u21, rfl, wn2⟩ := DataW.trod_int Tryz.underlying2 g21
  obtain ⟨s2, u22, rfl, ws2⟩ := DataW.trod_string Tryz.underlying9 g22
  simp only [List.cons.injEq, and_true] at u20 u21 u22
  subst u20 u21 u22
  have hT := tabs_of_laidX hL
  clear hA0 hval0
  refine (walk_CastMay a0 a1 k2 n2 s2 w0 w1 wk2 wn2 ws2 W hT).mono fun e W' ⟨he, hb⟩ => ?_
  subst he
  exact ⟨_, rfl, law_post laidOut rowedAll rfl hW' rfl rfl Tryz.underlying4 hb⟩

set_option maxRecDepth 100000 in
theorem lifted (os : Os) (started : os.Started) (H : Type) (enc : TypeId × Value → H) (F : Stop.Interp) :
    ReturnsInHanded {} Tryz.checked os 4 .any ((OpenSpec.ofChange Rows.castMaySpec).preRow enc Tryz.prog Tryz.f4 [] false laidLX) (((OpenSpec.ofChange Rows.castMaySpec).at F).post enc Tryz.prog Tryz.f4 false true false false) := by
  refine returnsInHanded_of_row (C := Tryz.checked) (s := OpenSpec.ofChange Rows.castMaySpec) own started (by kernel_rfl) Tryz.func4
    (witnessX (enc := enc) os #[.int .i64 0, .int .i64 0, .agg #[.int .i64 0, .int .i64 0, .string { data := #[] }]] (ds := [.lit (.int .i64 0), .lit (.int .i64 0), .agg [.lit (.int .i64 0), .lit (.int .i64 0), .lit (.string [])]]) (ps := []) (by kernel_rfl) (by kernel_rfl) (by kernel_rfl) (fun _ h => by cases h) (by kernel_rfl)) ?_
  intro W base args ds gs before hval hW _ _ _ hL _ _
  exact contract H enc W base args ds gs before hval hW hL

theorem said : Rows.CastMaySaid :=
  OpenClaim.holds_of_cond 4 Tryz.f4 rfl rfl rfl rfl rfl rfl rfl ⟨rfl, rfl, rfl, rfl, rfl⟩ rfl rfl rfl rfl rfl (by kernel_rfl) Tryz.func4 (by kernel_rfl)
    (of_decide_eq_true (by kernel_rfl)) (by unfold Func.isWrapper; first | (rw [if_pos (by decide +kernel)]; kernel_rfl) | (rw [if_neg (by decide +kernel)]; exact ⟨rfl, rfl⟩))
    (fun os started H enc _ F => by rw [OpenClaim.pre_eq_preRow, laid_eq]; exact lifted os started H enc F)

theorem plain (f : FuncId) (fn : Func) (hf : Tryz.pinned.checked.prog.funcNamed "umlaut/umlautlaw13.CastMay" = some f) (hfn : Tryz.pinned.checked.prog.funcs[f]? = some fn) :
    true = Tryz.pinned.checked.prog.looks [] ∧ ∀ (j : Nat) t, fn.params[j]? = some t → Tryz.pinned.checked.prog.wantsStandIn t = false := by
  obtain rfl : f = 4 := Option.some.inj ((show Tryz.prog.funcNamed "umlaut/umlautlaw13.CastMay" = some 4 by kernel_rfl).symm.trans hf) |>.symm
  obtain rfl : fn = Tryz.f4 := (Option.some.inj (Tryz.func4.symm.trans hfn)).symm
  refine ⟨by kernel_rfl, fun j t ht => ?_⟩
  have hall : (Tryz.f4.params.toList.all fun u => !Tryz.prog.wantsStandIn u) = true := by kernel_rfl
  have hm : t ∈ Tryz.f4.params.toList := Array.mem_def.1 (Array.mem_of_getElem? ht)
  have h1 := List.all_eq_true.1 hall t hm
  show Tryz.prog.wantsStandIn t = false
  cases h2 : Tryz.prog.wantsStandIn t
  · rfl
  · rw [h2] at h1; cases h1

/-- the card -/
theorem card : Rows.CastMayCardSaid :=
  Claim7.holds_tied_plain_at .later [] _ _ _ _ said (fun _ h => by cases h) (by kernel_rfl) (fun _ h => by cases h) castMay_row_tie rfl ⟨rfl, rfl⟩ (by kernel_rfl) rfl plain (by kernel_rfl)
#print axioms card
end Go.Proofs.YtbghbfgbpdppeaaGreatDoor.pCastMay
