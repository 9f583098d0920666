
/- ints.Parse: what it returns for every text up to 1000 bytes, where strconv's error for too great numbers stands. -/
import Derived.Test.YtbghbfgbpdppeaaGreatDoorIntsP
import Derived.Test.YtbghbfgbpdppeaaGreatDoorShelfN
import Derived.Test.YtbghbfgbpdppeaaGreatDoorShelfT
import Derived.Test.YtbghbfgbpdppeaaGreatDoorLaidX
import Derived.WalkSpells
import Derived.Lib.AtoiErrMem
namespace Go.Proofs.YtbghbfgbpdppeaaGreatDoor
open Go.ChangeShapes Go.WideShapes Go.ChangeAt Go.RowKit
set_option linter.unusedVariables false

theorem bl_mk (l : List UInt8) : bl ⟨l.toArray⟩ = l := rfl
theorem tenAscii : ∀ (j : Nat) b, (⟨#[48, 49, 50, 51, 52, 53, 54, 55, 56, 57]⟩ : ByteArray).data.toList[j]? = some b → b.toNat < 128 := ascii_of_all (by decide)

set_option maxRecDepth 100000 in
theorem parse_any (s : ByteArray) (w : World) (hs : s.size ≤ 1000) (hT : TabsX w) :
    Calls Tryz.prog 35 #[.string s] w fun e w' => e = .returned (.tuple #[.int .i64 (numV (bl s)), .int .i64 (numE (bl s))]) ∧ Below w.heap.size w w' := by
  obtain ⟨D, hD⟩ : ∃ D : ByteArray, D = ⟨(Lib.trimPrefix s.data.toList [45]).toArray⟩ := ⟨_, rfl⟩
  have C1 := Tryz.strings_TrimPrefix s ⟨#[45]⟩ w
  have hr : bl D = restB (bl s) := by rw [hD]; rfl
  have C1' : Calls Tryz.prog 53 #[.string s, .string ⟨#[45]⟩] w fun e w' => e = .returned (.string D) ∧ w = w' := C1.mono fun e w' ⟨he, hw⟩ => ⟨by rw [he, hD], hw.symm⟩
  clear C1 hD
  have hDs : D.size ≤ 1000 := by
    rw [← bl_len, hr]
    unfold restB
    have := bl_len s
    split
    · rw [List.length_drop]; omega
    · omega
  have C2 := fun W => Tryz.strings_Trim_laid D ⟨#[48, 49, 50, 51, 52, 53, 54, 55, 56, 57]⟩ W (by omega) (by decide) tenAscii
  have hnil := str_nil D
  have hno := num_no (l := bl s) rfl hr.symm
  by_cases hz : D.size = 0
  · have he : (bl D).isEmpty = true := by
      rw [List.isEmpty_iff]
      exact List.eq_nil_of_length_eq_zero (by rw [bl_len]; exact hz)
    have e := hno (.inl he)
    have e1 := Lib.hid e.1
    have e2 := Lib.hid e.2
    rw [decide_eq_true hz] at hnil
    replace C1' := Lib.hid C1'
    clear e he hno C2 hr
    go_enter Tryz.func35, Tryz.ntmps35
    go_wp2_with (go_at_call 53; (with_reducible refine C1'.out.mono ?_); rintro e w' ⟨rfl, rfl⟩)
    go_ret2
    exact ⟨ret2 e1.out.symm e2.out.symm, Below.refl _ _⟩
  · have he : (bl D).isEmpty = false := by
      rw [Bool.eq_false_iff]
      intro h
      rw [List.isEmpty_iff] at h
      have := bl_len D
      rw [h] at this
      exact hz this.symm
    rw [decide_eq_false hz] at hnil
    obtain ⟨R, hR⟩ : ∃ R : ByteArray, R = ⟨(Lib.trimS D.data.toList [48, 49, 50, 51, 52, 53, 54, 55, 56, 57]).toArray⟩ := ⟨_, rfl⟩
    have hRn : R.toList.isEmpty = (bl D).all isDg := by
      rw [← trim_dg, hR, ByteArray.toList_eq]
    have C2' : Hid (∀ W, Calls Tryz.prog 36 #[.string D, .string ⟨#[48, 49, 50, 51, 52, 53, 54, 55, 56, 57]⟩] W fun e w' => e = .returned (.string R) ∧ Below W.heap.size W w') :=
      Lib.hid fun W => (C2 W).mono fun e w' ⟨he, hw⟩ => ⟨by rw [he, hR], hw⟩
    clear C2 hR
    cases hall : (bl D).all isDg
    · have e := hno (.inr hall)
      have e1 := Lib.hid e.1
      have e2 := Lib.hid e.2
      rw [hall] at hRn
      replace C1' := Lib.hid C1'
      clear e he hno hr hall
      go_enter Tryz.func35, Tryz.ntmps35
      go_wp2_with (first | (go_at_call 53; (with_reducible refine C1'.out.mono ?_); rintro e w' ⟨rfl, rfl⟩) | (go_at_call 36; (with_reducible refine (C2'.out _).mono ?_); rintro e w1 ⟨rfl, hb1⟩))
      go_ret2
      exact ⟨ret2 e1.out.symm e2.out.symm, hb1⟩
    · have hok : numOk (bl s) = true := by rw [(num_of rfl hr.symm).1, he, hall]; rfl
      have hpi := pi64 hok
      rw [hall] at hRn
      cases hf : fits (numX (bl s))
      · have e1 := Lib.hid (show numV (bl s) = 0 by rw [numV, if_pos hok, val1_no hf])
        have e2 := Lib.hid (show numE (bl s) = 17 by rw [numE, if_pos hok, err1_no hf])
        rw [hf, if_neg (by simp)] at hpi
        have C3 : Hid (∀ W, Below w.heap.size w W → Calls Tryz.prog 54 #[.string s, .int .i64 10, .int .i64 64] W fun e w' => ∃ N : Nat, e = .returned (.tuple #[.int .i64 (Lib.intSat 64 s.data.toList), .iface 109 (.pointer (some ⟨N, 0, none⟩))]) ∧ Below W.heap.size W w') := Lib.hid fun W hb => by
          obtain ⟨tp, p, hv⟩ := (hT.below hb).2.2.1
          exact (Tryz.strconv_ParseInt_10_at64_range_var s (by omega) hpi tp p W hv).mono fun e w' ⟨N, he, _, _, hb⟩ => ⟨N, he, hb⟩
        replace C1' := Lib.hid C1'
        clear he hno hr hall hok hpi hf hT
        go_enter Tryz.func35, Tryz.ntmps35
        go_wp2_with (first | (go_at_call 53; (with_reducible refine C1'.out.mono ?_); rintro e w' ⟨rfl, rfl⟩) | (go_at_call 36; (with_reducible refine (C2'.out _).mono ?_); rintro e w1 ⟨rfl, hb1⟩) | (go_at_call 54; (with_reducible refine (C3.out w1 hb1).mono ?_); rintro e w2 ⟨N, rfl, hb2⟩))
        go_ret2
        exact ⟨ret2 e1.out.symm e2.out.symm, hb1.trans (hb2.mono hb1.size)⟩
      · have e1 := Lib.hid (show numV (bl s) = numX (bl s) by rw [numV, if_pos hok, val1_yes hf])
        have e2 := Lib.hid (show numE (bl s) = 0 by rw [numE, if_pos hok, err1_yes hf])
        rw [hf, if_pos rfl] at hpi
        have C3 : Hid (∀ W, Calls Tryz.prog 54 #[.string s, .int .i64 10, .int .i64 64] W fun e w' => e = .returned (.tuple #[.int .i64 (numX (bl s)), .nilIface]) ∧ Below W.heap.size W w') := Lib.hid fun W =>
          (Tryz.strconv_ParseInt_10_at64_ok s (by omega) _ hpi W).mono fun e w' ⟨he, hw⟩ => ⟨he, by
            rcases hw with rfl | ⟨t, rfl⟩
            · exact Below.refl _ _
            · exact Lib.bytesWorld_below _ _ _⟩
        replace C1' := Lib.hid C1'
        clear he hno hr hall hok hpi hf hT
        generalize numX (bl s) = X at *
        go_enter Tryz.func35, Tryz.ntmps35
        go_wp2_with (first | (go_at_call 53; (with_reducible refine C1'.out.mono ?_); rintro e w' ⟨rfl, rfl⟩) | (go_at_call 36; (with_reducible refine (C2'.out _).mono ?_); rintro e w1 ⟨rfl, hb1⟩) | (go_at_call 54; (with_reducible refine (C3.out w1).mono ?_); rintro e w2 ⟨rfl, hb2⟩))
        go_ret2
        exact ⟨ret2 e1.out.symm e2.out.symm, hb1.trans (hb2.mono hb1.size)⟩
end Go.Proofs.YtbghbfgbpdppeaaGreatDoor
