
/- Whether numbers are signs by the document (umlautref1.IsSign), signs' bytes one behind the other (Join), and together (Bytes). -/
import Derived.Test.YtmpnblibbcocpaaDoorTextL
namespace Go.Proofs.YtmpnblibbcocpaaDoor
open Go.ChangeShapes Go.WideShapes Go.ChangeAt Go.RowKit Go.Lib
set_option linter.unusedVariables false

theorem isSign_a (c : Int) (k1 : c ≤ -1) (w : World) : Calls Tryd.prog 13 #[.int .i64 c] w fun e w' => e = .returned (.bool false) ∧ w = w' := by
  have p0 : ¬ 0 ≤ c := by omega
  have p1 : c ≤ 1114111 := by omega
  have p2 : c < 55296 := by omega
  have p3 : ¬ 57343 < c := by omega
  have p4 : ¬ 1114240 ≤ c := by omega
  have p5 : c ≤ 1114367 := by omega
  go_enter Tryd.func13, Tryd.ntmps13
  go_wp2
  go_ret
  exact ⟨retb (by first | rfl | (simp; omega)), rfl⟩
theorem isSign_b (c : Int) (k0 : 0 ≤ c) (k1 : c ≤ 55295) (w : World) : Calls Tryd.prog 13 #[.int .i64 c] w fun e w' => e = .returned (.bool true) ∧ w = w' := by
  have p0 : 0 ≤ c := by omega
  have p1 : c ≤ 1114111 := by omega
  have p2 : c < 55296 := by omega
  have p3 : ¬ 57343 < c := by omega
  have p4 : ¬ 1114240 ≤ c := by omega
  have p5 : c ≤ 1114367 := by omega
  go_enter Tryd.func13, Tryd.ntmps13
  go_wp2
  go_ret
  exact ⟨retb (by first | rfl | (simp; omega)), rfl⟩
theorem isSign_c (c : Int) (k0 : 55296 ≤ c) (k1 : c ≤ 57343) (w : World) : Calls Tryd.prog 13 #[.int .i64 c] w fun e w' => e = .returned (.bool false) ∧ w = w' := by
  have p0 : 0 ≤ c := by omega
  have p1 : c ≤ 1114111 := by omega
  have p2 : ¬ c < 55296 := by omega
  have p3 : ¬ 57343 < c := by omega
  have p4 : ¬ 1114240 ≤ c := by omega
  have p5 : c ≤ 1114367 := by omega
  go_enter Tryd.func13, Tryd.ntmps13
  go_wp2
  go_ret
  exact ⟨retb (by first | rfl | (simp; omega)), rfl⟩
theorem isSign_d (c : Int) (k0 : 57344 ≤ c) (k1 : c ≤ 1114111) (w : World) : Calls Tryd.prog 13 #[.int .i64 c] w fun e w' => e = .returned (.bool true) ∧ w = w' := by
  have p0 : 0 ≤ c := by omega
  have p1 : c ≤ 1114111 := by omega
  have p2 : ¬ c < 55296 := by omega
  have p3 : 57343 < c := by omega
  have p4 : ¬ 1114240 ≤ c := by omega
  have p5 : c ≤ 1114367 := by omega
  go_enter Tryd.func13, Tryd.ntmps13
  go_wp2
  go_ret
  exact ⟨retb (by first | rfl | (simp; omega)), rfl⟩
theorem isSign_e (c : Int) (k0 : 1114112 ≤ c) (k1 : c ≤ 1114239) (w : World) : Calls Tryd.prog 13 #[.int .i64 c] w fun e w' => e = .returned (.bool false) ∧ w = w' := by
  have p0 : 0 ≤ c := by omega
  have p1 : ¬ c ≤ 1114111 := by omega
  have p2 : ¬ c < 55296 := by omega
  have p3 : 57343 < c := by omega
  have p4 : ¬ 1114240 ≤ c := by omega
  have p5 : c ≤ 1114367 := by omega
  go_enter Tryd.func13, Tryd.ntmps13
  go_wp2
  go_ret
  exact ⟨retb (by first | rfl | (simp; omega)), rfl⟩
theorem isSign_f (c : Int) (k0 : 1114240 ≤ c) (k1 : c ≤ 1114367) (w : World) : Calls Tryd.prog 13 #[.int .i64 c] w fun e w' => e = .returned (.bool true) ∧ w = w' := by
  have p0 : 0 ≤ c := by omega
  have p1 : ¬ c ≤ 1114111 := by omega
  have p2 : ¬ c < 55296 := by omega
  have p3 : 57343 < c := by omega
  have p4 : 1114240 ≤ c := by omega
  have p5 : c ≤ 1114367 := by omega
  go_enter Tryd.func13, Tryd.ntmps13
  go_wp2
  go_ret
  exact ⟨retb (by first | rfl | (simp; omega)), rfl⟩
theorem isSign_g (c : Int) (k0 : 1114368 ≤ c) (w : World) : Calls Tryd.prog 13 #[.int .i64 c] w fun e w' => e = .returned (.bool false) ∧ w = w' := by
  have p0 : 0 ≤ c := by omega
  have p1 : ¬ c ≤ 1114111 := by omega
  have p2 : ¬ c < 55296 := by omega
  have p3 : 57343 < c := by omega
  have p4 : 1114240 ≤ c := by omega
  have p5 : ¬ c ≤ 1114367 := by omega
  go_enter Tryd.func13, Tryd.ntmps13
  go_wp2
  go_ret
  exact ⟨retb (by first | rfl | (simp; omega)), rfl⟩
theorem IsSign_any (c : Int) (w : World) : Calls Tryd.prog 13 #[.int .i64 c] w fun e w' => e = .returned (.bool (isZ c)) ∧ w = w' := by
  by_cases h_a : c ≤ -1
  · have e : isZ c = false := by unfold isZ; simp; omega
    rw [e]
    exact isSign_a c h_a w
  by_cases h_b : c ≤ 55295
  · have e : isZ c = true := by unfold isZ; simp; omega
    rw [e]
    exact isSign_b c (by omega) h_b w
  by_cases h_c : c ≤ 57343
  · have e : isZ c = false := by unfold isZ; simp; omega
    rw [e]
    exact isSign_c c (by omega) h_c w
  by_cases h_d : c ≤ 1114111
  · have e : isZ c = true := by unfold isZ; simp; omega
    rw [e]
    exact isSign_d c (by omega) h_d w
  by_cases h_e : c ≤ 1114239
  · have e : isZ c = false := by unfold isZ; simp; omega
    rw [e]
    exact isSign_e c (by omega) h_e w
  by_cases h_f : c ≤ 1114367
  · have e : isZ c = true := by unfold isZ; simp; omega
    rw [e]
    exact isSign_f c (by omega) h_f w
  have e : isZ c = false := by unfold isZ; simp; omega
  rw [e]
  exact isSign_g c (by omega) w

theorem isz_all {zs : List Int} {k : Nat} (h : k < zs.length) : (zs.take (k + 1)).all isZ = ((zs.take k).all isZ && isZ (zs.getD k 0)) := by
  rw [List.take_add_one, List.getElem?_eq_getElem h, List.all_append]
  simp [List.getD, h]
theorem isz_none {zs : List Int} {k : Nat} (h : k < zs.length) (hz : isZ (zs.getD k 0) = false) : zs.all isZ = false := by
  rw [List.all_eq_false]
  refine ⟨zs.getD k 0, ?_, by rw [hz]; simp⟩
  simp [List.getD, h]
end Go.Proofs.YtmpnblibbcocpaaDoor
