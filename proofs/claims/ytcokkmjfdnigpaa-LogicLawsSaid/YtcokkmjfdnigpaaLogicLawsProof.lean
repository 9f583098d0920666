/- LogicLaws: the statement, whole: for every input the call returns true and each argument reads behind it as it did. No condition. -/
import Derived.Test.YtcokkmjfdnigpaaWalksF
import Derived.Test.YtcokkmjfdnigpaaFrame
import Derived.Lib.SmallJoins
namespace Go.Proofs.Ytcokkmjfdnigpaa.pLogicLaws
open Go.ChangeShapes Go.WideShapes Go.ChangeAt Go.RowKit
set_option linter.unusedVariables false

theorem own : ownKnob Try.prog.godebug = none := by kernel_rfl
theorem laidOut : laidOutB Try.prog = true := by kernel_rfl
theorem rowedAll : rowed Try.prog Try.f3.params.toList = true := by kernel_rfl

theorem contract (H : Type) (enc : TypeId × Value → H) (W : World) (base : Nat) (args : Array Value) (ds gs : List (DataW H)) (before : List MemPlace)
    (hval0 : ∀ (j : Nat) t v, Try.f3.params[j]? = some t → args[j]? = some v → Value.okWide Try.prog W .any base t v)
    (hW : DataW.Whole enc Try.prog Try.f3.params.toList Rows.logicLawsSpec.vars false W args.toList ds gs before) :
    Calls Try.prog 3 args W fun e W' => ∃ v, e = .returned v ∧ Rows.logicLawsSpec.post enc Try.prog Try.f3 false true false false W args v W' := by
  have hval : ∀ (j : Nat) t v, Try.f3.params[j]? = some t → args[j]? = some v → Value.okWide Try.prog W .any base t v := hval0
  have hW' := hW
  obtain ⟨p, q, hA0, hV, rfl, hfz, hnd⟩ := hW
  have hA : DataW.TrodAll enc Try.prog W 0 (fun _ => true) true Try.f3.params.toList args.toList ds p := hA0
  rw [Try.params3] at hA hval
  obtain ⟨v0, vs0, d0, ds0, p0, q0, hargs, rfl, rfl, h0, r0⟩ := trodAll_cons hA
  obtain ⟨v1, vs1, d1, ds1, p1, q1, rfl, rfl, rfl, h1, r1⟩ := trodAll_cons r0
  obtain ⟨v2, vs2, d2, ds2, p2, q2, rfl, rfl, rfl, h2, r2⟩ := trodAll_cons r1
  obtain ⟨rfl, rfl, rfl⟩ := trodAll_nil r2
  obtain rfl : args = #[v0, v1, v2] := by cases args; simp_all
  obtain ⟨rfl, rfl⟩ := trodVars_none hV
  obtain ⟨c00, c01, c02, y00, y01, y02, m0, rfl, rfl, rfl, g00, g01, g02⟩ := Joins.open_agg3 Try.underlying23 (by kernel_rfl) (by kernel_rfl) (hval 0 23 v0 rfl rfl) h0
  obtain ⟨k0, u00, rfl, wk0⟩ := DataW.trod_int Try.underlying3 g00
  obtain ⟨n0, u01, rfl, wn0⟩ := DataW.trod_int Try.underlying2 g01
  obtain ⟨s0, u02, rfl, ws0⟩ := DataW.trod_string Try.underlying9 g02
  simp only [List.cons.injEq, and_true] at u00 u01 u02
  subst u00 u01 u02
  obtain ⟨c10, c11, c12, y10, y11, y12, m1, rfl, rfl, rfl, g10, g11, g12⟩ := Joins.open_agg3 Try.underlying23 (by kernel_rfl) (by kernel_rfl) (hval 1 23 v1 rfl rfl) h1
  obtain ⟨k1, u10, rfl, wk1⟩ := DataW.trod_int Try.underlying3 g10
  obtain ⟨n1, u11, rfl, wn1⟩ := DataW.trod_int Try.underlying2 g11
  obtain ⟨s1, u12, rfl, ws1⟩ := DataW.trod_string Try.underlying9 g12
  simp only [List.cons.injEq, and_true] at u10 u11 u12
  subst u10 u11 u12
  obtain ⟨c20, c21, c22, y20, y21, y22, m2, rfl, rfl, rfl, g20, g21, g22⟩ := Joins.open_agg3 Try.underlying23 (by kernel_rfl) (by kernel_rfl) (hval 2 23 v2 rfl rfl) h2
  obtain ⟨k2, u20, rfl, wk2⟩ := DataW.trod_int Try.underlying3 g20
  obtain ⟨n2, u21, rfl, wn2⟩ := DataW.trod_int Try.underlying2 g21
  obtain ⟨s2, u22, rfl, ws2⟩ := DataW.trod_string Try.underlying9 g22
  simp only [List.cons.injEq, and_true] at u20 u21 u22
  subst u20 u21 u22
  clear hA0 hval0
  refine (walk_laws k0 n0 s0 k1 n1 s1 k2 n2 s2 W).mono fun e W' ⟨he, hb⟩ => ?_
  subst he
  exact ⟨_, rfl, law_post laidOut rowedAll rfl hW' rfl rfl Try.underlying4 hb⟩

set_option maxRecDepth 100000 in
theorem lifted (os : Os) (started : os.Started) (H : Type) (enc : TypeId × Value → H) :
    ReturnsInHanded {} Try.checked os 3 .any (Rows.logicLawsSpec.pre6 enc Try.prog Try.f3 Rows.logicLawsRow.domain false) (Rows.logicLawsSpec.post enc Try.prog Try.f3 false true false false) := by
  refine returnsInHanded_of_change (C := Try.checked) own started (by kernel_rfl) Try.func3
    (ChangeSpec.witness6 (enc := enc) (C := Try.checked) false ⟨#[], #[.agg #[.int .i64 0, .int .i64 0, .string { data := #[] }], .agg #[.int .i64 0, .int .i64 0, .string { data := #[] }], .agg #[.int .i64 0, .int .i64 0, .string { data := #[] }]], []⟩ 8 (by kernel_rfl) (by kernel_rfl) (by kernel_rfl) (by kernel_rfl)) ?_
  intro W base args ds gs before hval hW _ _
  exact contract H enc W base args ds gs before hval hW

/-- the statement -/
theorem proved : Rows.LogicLawsSaid :=
  OpenClaim.holds_of_wide 3 Try.f3 rfl rfl rfl rfl rfl rfl rfl ⟨rfl, rfl, rfl, rfl, rfl⟩ rfl rfl rfl rfl rfl (by kernel_rfl) Try.func3 (by kernel_rfl)
    (of_decide_eq_true (by kernel_rfl)) (by unfold Func.isWrapper; first | (rw [if_pos (by decide +kernel)]; kernel_rfl) | (rw [if_neg (by decide +kernel)]; exact ⟨rfl, rfl⟩))
    (fun os started H enc _ => lifted os started H enc)
#print axioms proved
end Go.Proofs.Ytcokkmjfdnigpaa.pLogicLaws
