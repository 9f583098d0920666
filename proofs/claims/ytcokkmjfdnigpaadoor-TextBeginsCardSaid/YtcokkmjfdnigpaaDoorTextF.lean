/- Whether numbers are signs (utext.Sign, slices.ContainsFunc over its denial). -/
import Derived.Test.YtcokkmjfdnigpaaDoorTextE
namespace Go.Proofs.YtcokkmjfdnigpaaDoor
open Go.ChangeShapes Go.WideShapes Go.ChangeAt Go.RowKit Go.Lib
set_option linter.unusedVariables false

def isZ (c : Int) : Bool := decide ((0 ≤ c ∧ c < 55296) ∨ (57344 ≤ c ∧ c < 1114112) ∨ (1114240 ≤ c ∧ c ≤ 1114367))
theorem retb {a b : Bool} (h : a = b) : Ending.returned (.bool a) = .returned (.bool b) := by rw [h]
theorem isZ_nat (c : Nat) : isZ (c : Int) = isSg c := by
  unfold isZ isSg
  rw [decide_eq_decide]
  omega

theorem sign0 (c : Int) (w : World) (h : c < 0) : Calls Tryd.prog 29 #[.int .i64 c] w fun e w' => e = .returned (.bool false) ∧ w = w' := by
  go_enter Tryd.func29, Tryd.ntmps29
  go_wp2
  go_ret
  exact ⟨retb (by first | rfl | (simp; omega)), rfl⟩
theorem sign1 (c : Int) (w : World) (h : ¬ c < 0) (h2 : c < 55296) : Calls Tryd.prog 29 #[.int .i64 c] w fun e w' => e = .returned (.bool true) ∧ w = w' := by
  go_enter Tryd.func29, Tryd.ntmps29
  go_wp2
  go_ret
  exact ⟨retb (by first | rfl | (simp; omega)), rfl⟩
theorem sign2 (c : Int) (w : World) (h : ¬ c < 0) (h2 : ¬ c < 55296) (h3 : c < 57344) : Calls Tryd.prog 29 #[.int .i64 c] w fun e w' => e = .returned (.bool false) ∧ w = w' := by
  go_enter Tryd.func29, Tryd.ntmps29
  go_wp2
  go_ret
  exact ⟨retb (by first | rfl | (simp; omega)), rfl⟩
theorem sign3 (c : Int) (w : World) (h : ¬ c < 0) (h2 : ¬ c < 55296) (h3 : ¬ c < 57344) (h4 : c < 1114112) : Calls Tryd.prog 29 #[.int .i64 c] w fun e w' => e = .returned (.bool true) ∧ w = w' := by
  go_enter Tryd.func29, Tryd.ntmps29
  go_wp2
  go_ret
  exact ⟨retb (by first | rfl | (simp; omega)), rfl⟩
theorem sign4 (c : Int) (w : World) (h : ¬ c < 0) (h2 : ¬ c < 55296) (h3 : ¬ c < 57344) (h4 : ¬ c < 1114112) (h5 : c < 1114240) : Calls Tryd.prog 29 #[.int .i64 c] w fun e w' => e = .returned (.bool false) ∧ w = w' := by
  go_enter Tryd.func29, Tryd.ntmps29
  go_wp2
  go_ret
  exact ⟨retb (by first | rfl | (simp; omega)), rfl⟩
theorem sign5 (c : Int) (w : World) (h : ¬ c < 0) (h2 : ¬ c < 55296) (h3 : ¬ c < 57344) (h4 : ¬ c < 1114112) (h5 : ¬ c < 1114240) (h6 : c ≤ 1114367) : Calls Tryd.prog 29 #[.int .i64 c] w fun e w' => e = .returned (.bool true) ∧ w = w' := by
  go_enter Tryd.func29, Tryd.ntmps29
  go_wp2
  go_ret
  exact ⟨retb (by first | rfl | (simp; omega)), rfl⟩
theorem sign6 (c : Int) (w : World) (h : ¬ c < 0) (h2 : ¬ c < 55296) (h3 : ¬ c < 57344) (h4 : ¬ c < 1114112) (h5 : ¬ c < 1114240) (h6 : ¬ c ≤ 1114367) : Calls Tryd.prog 29 #[.int .i64 c] w fun e w' => e = .returned (.bool false) ∧ w = w' := by
  go_enter Tryd.func29, Tryd.ntmps29
  go_wp2
  go_ret
  exact ⟨retb (by first | rfl | (simp; omega)), rfl⟩
theorem Sign_any (c : Int) (w : World) : Calls Tryd.prog 29 #[.int .i64 c] w fun e w' => e = .returned (.bool (isZ c)) ∧ w = w' := by
  by_cases h : c < 0
  · have e : isZ c = false := by unfold isZ; simp; omega
    rw [e]
    exact sign0 c w h
  by_cases h2 : c < 55296
  · have e : isZ c = true := by unfold isZ; simp; omega
    rw [e]
    exact sign1 c w h h2
  by_cases h3 : c < 57344
  · have e : isZ c = false := by unfold isZ; simp; omega
    rw [e]
    exact sign2 c w h h2 h3
  by_cases h4 : c < 1114112
  · have e : isZ c = true := by unfold isZ; simp; omega
    rw [e]
    exact sign3 c w h h2 h3 h4
  by_cases h5 : c < 1114240
  · have e : isZ c = false := by unfold isZ; simp; omega
    rw [e]
    exact sign4 c w h h2 h3 h4 h5
  by_cases h6 : c ≤ 1114367
  · have e : isZ c = true := by unfold isZ; simp; omega
    rw [e]
    exact sign5 c w h h2 h3 h4 h5 h6
  have e : isZ c = false := by unfold isZ; simp; omega
  rw [e]
  exact sign6 c w h h2 h3 h4 h5 h6

theorem notSign_any (c : Int) (w : World) : Calls Tryd.prog 28 #[.int .i64 c] w fun e w' => e = .returned (.bool (!isZ c)) ∧ w = w' := by
  have C := Lib.hid (Sign_any c w)
  generalize isZ c = z at *
  go_enter Tryd.func28, Tryd.ntmps28
  go_wp2_with (go_at_call 29; (with_reducible refine C.out.mono ?_); rintro e w' ⟨rfl, rfl⟩)
  go_ret
  exact ⟨rfl, rfl⟩

set_option maxRecDepth 100000 in
theorem IndexFunc_any (v : Value) (zs : List Int) (w : World) (hr : Rd w v zs) (hl : zs.length ≤ 1000000) :
    Calls Tryd.prog 41 #[v, .func (.func 28) #[] #[]] w fun e w' => ∃ r : Int, e = .returned (.int .i64 r) ∧ decide (0 ≤ r) = !zs.all isZ ∧ Below w.heap.size w w' := by
  obtain ⟨A, c, rfl, hc, h2⟩ := hr
  go_enter Tryd.func41, Tryd.ntmps41
  go_wp2_with fail
  go_loop [8] (fun i => ∃ k : Nat, k ≤ zs.length ∧ i = .int .i64 k ∧ Hid ((zs.take k).all isZ = true)) (fun i => zs.length - (RowKit.intOf i).toNat)
  case atStart => exact ⟨0, Nat.zero_le _, rfl, Lib.hid rfl⟩
  case round =>
    obtain ⟨k, hk, rfl, ha⟩ := hrel
    by_cases h : k < zs.length
    · obtain ⟨b, o, rfl, hlt, hcell⟩ := h2 (by omega)
      have hcx := hcell k h
      have C := Lib.hid (notSign_any (zs.getD k 0) w)
      have ht : zs.take (k + 1) = zs.take k ++ [zs.getD k 0] := by
        rw [List.take_add_one, List.getElem?_eq_getElem h]
        simp [List.getD, h]
      have hs : Hid (isZ (zs.getD k 0) = true → (zs.take (k + 1)).all isZ = true) := Lib.hid (fun hz => by rw [ht, List.all_append, ha.out]; simpa using hz)
      have hn : Hid (isZ (zs.getD k 0) = false → zs.all isZ = false) := Lib.hid (fun hz => by
        rw [List.all_eq_false]
        refine ⟨zs.getD k 0, ?_, by rw [hz]; simp⟩
        simp [List.getD, h])
      clear ht hcell h2
      generalize zs.getD k 0 = x at *
      cases hz : isZ x with
      | false =>
        rw [hz] at C
        have hn2 := Lib.hid (hn.out hz)
        clear hz hn hs
        go_wp2_with (go_at_call 28; (with_reducible refine C.out.mono ?_); rintro e w' ⟨rfl, rfl⟩)
        go_ret
        exact ⟨_, rfl, by rw [hn2.out]; simp, Below.refl _ _⟩
      | true =>
        rw [hz] at C
        have hs2 := hs.out hz
        clear hz hn hs
        go_wp2_with (go_at_call 28; (with_reducible refine C.out.mono ?_); rintro e w' ⟨rfl, rfl⟩)
        go_round
        case rel => exact ⟨k + 1, by omega, by go_num, Lib.hid hs2⟩
        case measure => simp [RowKit.intOf]; omega
    · have hkl : k = zs.length := by omega
      subst hkl
      rw [List.take_length] at ha
      go_wp2
      go_ret
      exact ⟨_, rfl, by rw [ha.out]; simp, Below.refl _ _⟩

theorem ContainsFunc_any (v : Value) (zs : List Int) (w : World) (hr : Rd w v zs) (hl : zs.length ≤ 1000000) :
    Calls Tryd.prog 27 #[v, .func (.func 28) #[] #[]] w fun e w' => e = .returned (.bool (!zs.all isZ)) ∧ Below w.heap.size w w' := by
  have C := Lib.hid (IndexFunc_any v zs w hr hl)
  obtain ⟨A, c, rfl, hc, h2⟩ := hr
  clear h2
  generalize zs.all isZ = z at *
  go_enter Tryd.func27, Tryd.ntmps27
  go_wp2_with (go_at_call 41; (with_reducible refine C.out.mono ?_); rintro e w' ⟨r, rfl, hd, hb⟩)
  go_ret
  exact ⟨retb (by rw [← hd]), hb⟩
end Go.Proofs.YtcokkmjfdnigpaaDoor
