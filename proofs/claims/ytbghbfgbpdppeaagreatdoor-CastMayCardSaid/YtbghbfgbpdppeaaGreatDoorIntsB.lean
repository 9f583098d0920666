
/- Quotients, rests, shifts, widths and words of package ints and of the document's answer: what each function returns, for every number of 64 bits. -/
import Derived.Test.YtbghbfgbpdppeaaGreatDoorIntsM
namespace Go.Proofs.YtbghbfgbpdppeaaGreatDoor
open Go.ChangeShapes Go.WideShapes Go.ChangeAt Go.RowKit

theorem div_any (a b : Int) (w : World) (ha : fits a = true) :
    Calls Tryz.prog 40 #[.int .i64 a, .int .i64 b] w fun e w' => e = .returned (.tuple #[.int .i64 (divV a b), .int .i64 (divE a b)]) ∧ w = w' := by
  by_cases h0 : b = 0
  · have e1 : divV a b = 0 := by simp [divV, h0]
    have e2 : divE a b = 18 := by simp [divE, h0]
    rw [e1, e2]
    clear e1 e2
    subst h0
    go_enter Tryz.func40, Tryz.ntmps40
    go_wp2
    go_ret2
    exact ⟨rfl, rfl⟩
  · have e1 : divV a b = val1 (a.tdiv b) := by simp [divV, h0]
    have e2 : divE a b = err1 (a.tdiv b) := by simp [divE, h0]
    rw [e1, e2]
    clear e1 e2
    by_cases h1 : b = -1
    · subst h1
      rw [tdiv_neg1]
      have C := Lib.hid (neg_any a w ha)
      go_enter Tryz.func40, Tryz.ntmps40
      go_wp2_with (go_at_call 31; refine C.out.mono ?_; rintro e w' ⟨rfl, rfl⟩)
      go_ret2
      exact ⟨rfl, rfl⟩
    · have hf := fits_tdiv (a := a) (b := b) ha h0 h1
      have e1 := Lib.hid (val1_yes hf)
      have e2 := Lib.hid (err1_yes hf)
      have e3 := Lib.hid (w64_in hf)
      clear hf
      have g0 : (b == 0) = false := by simpa using h0
      have g1 : (b == -1) = false := by simpa using h1
      go_enter Tryz.func40, Tryz.ntmps40
      go_wp2
      go_ret2
      exact ⟨ret2 (by rw [e1.out]; exact e3.out) e2.out.symm, rfl⟩

theorem mod_any (a b : Int) (w : World) :
    Calls Tryz.prog 41 #[.int .i64 a, .int .i64 b] w fun e w' => e = .returned (.tuple #[.int .i64 (modV a b), .int .i64 (modE b)]) ∧ w = w' := by
  by_cases h0 : b = 0
  · have e1 : modV a b = 0 := by simp [modV, h0]
    have e2 : modE b = 18 := by simp [modE, h0]
    rw [e1, e2]
    clear e1 e2
    subst h0
    go_enter Tryz.func41, Tryz.ntmps41
    go_wp2
    go_ret2
    exact ⟨rfl, rfl⟩
  · have e1 : modV a b = a.tmod b := by simp [modV, h0]
    have e2 : modE b = 0 := by simp [modE, h0]
    rw [e1, e2]
    clear e1 e2
    by_cases h1 : b = -1
    · subst h1
      rw [tmod_neg1]
      go_enter Tryz.func41, Tryz.ntmps41
      go_wp2
      go_ret2
      exact ⟨rfl, rfl⟩
    · have g0 : (b == 0) = false := by simpa using h0
      have g1 : (b == -1) = false := by simpa using h1
      go_enter Tryz.func41, Tryz.ntmps41
      go_wp2
      go_ret2
      exact ⟨rfl, rfl⟩

theorem shl_any (a n : Int) (w : World) :
    Calls Tryz.prog 42 #[.int .i64 a, .int .i64 n] w fun e w' => e = .returned (.tuple #[.int .i64 (shlV a n), .int .i64 (shlE a n)]) ∧ w = w' := by
  cases hn : inSh n
  · have e1 : shlV a n = 0 := by simp [shlV, hn]
    have e2 : shlE a n = 19 := by simp [shlE, hn]
    rw [e1, e2]
    rw [inSh_not] at hn
    clear e1 e2
    rcases hn with hn | hn
    · go_enter Tryz.func42, Tryz.ntmps42
      go_wp2
      go_ret2
      exact ⟨rfl, rfl⟩
    · have h0 : ¬ n < 0 := by omega
      go_enter Tryz.func42, Tryz.ntmps42
      go_wp2
      go_ret2
      exact ⟨rfl, rfl⟩
  · have e1 : shlV a n = val1 (a * 2 ^ n.toNat) := by simp [shlV, hn]
    have e2 : shlE a n = err1 (a * 2 ^ n.toNat) := by simp [shlE, hn]
    rw [e1, e2]
    clear e1 e2
    obtain ⟨h0, h1⟩ := (inSh_iff n).1 hn
    clear hn
    cases hf : fits (a * 2 ^ n.toNat)
    · rw [val1_no hf, err1_no hf]
      have hb : (wrap64 (a * 2 ^ n.toNat) / 2 ^ n.toNat != a) = true := by
        rw [bne_iff_ne]
        intro h
        rw [shl_back (by omega) h] at hf
        cases hf
      clear hf
      go_enter Tryz.func42, Tryz.ntmps42
      go_wp2
      go_ret2
      exact ⟨rfl, rfl⟩
    · rw [val1_yes hf, err1_yes hf]
      have hb : (wrap64 (a * 2 ^ n.toNat) / 2 ^ n.toNat != a) = false := by rw [shl_fits hf]; simp
      have e3 := Lib.hid (w64_in hf)
      clear hf
      go_enter Tryz.func42, Tryz.ntmps42
      go_wp2
      go_ret2
      exact ⟨ret2 e3.out rfl, rfl⟩

theorem shr_any (a n : Int) (w : World) :
    Calls Tryz.prog 43 #[.int .i64 a, .int .i64 n] w fun e w' => e = .returned (.tuple #[.int .i64 (shrV a n), .int .i64 (shrE n)]) ∧ w = w' := by
  cases hn : inSh n
  · have e1 : shrV a n = 0 := by simp [shrV, hn]
    have e2 : shrE n = 19 := by simp [shrE, hn]
    rw [e1, e2]
    rw [inSh_not] at hn
    clear e1 e2
    rcases hn with hn | hn
    · go_enter Tryz.func43, Tryz.ntmps43
      go_wp2
      go_ret2
      exact ⟨rfl, rfl⟩
    · have h0 : ¬ n < 0 := by omega
      go_enter Tryz.func43, Tryz.ntmps43
      go_wp2
      go_ret2
      exact ⟨rfl, rfl⟩
  · have e1 : shrV a n = a / 2 ^ n.toNat := by simp [shrV, hn]
    have e2 : shrE n = 0 := by simp [shrE, hn]
    rw [e1, e2]
    clear e1 e2
    obtain ⟨h0, h1⟩ := (inSh_iff n).1 hn
    clear hn
    go_enter Tryz.func43, Tryz.ntmps43
    go_wp2
    go_ret2
    exact ⟨rfl, rfl⟩

end Go.Proofs.YtbghbfgbpdppeaaGreatDoor
