/- The document's product; the look of one answer against the other: what each function returns, for every number of 64 bits. -/
import Derived.Test.YtcklidpfmpanhaaDoorIntsD
namespace Go.Proofs.YtcklidpfmpanhaaDoor
open Go.ChangeShapes Go.WideShapes Go.ChangeAt Go.RowKit

theorem fits_wf {a : Int} (h : (Lit.int .i64 a).wf = true) : fits a = true := by
  simp [Lit.wf, IntKind.min, IntKind.max, IntKind.signed, IntKind.bits] at h
  apply fits_mk <;> omega
theorem u64_wf {a : Int} (h : (Lit.int .u64 a).wf = true) : 0 ≤ a ∧ a < 18446744073709551616 := by
  simp [Lit.wf, IntKind.min, IntKind.max, IntKind.signed, IntKind.bits] at h
  omega

theorem mul_back {a b : Int} (hb0 : b ≠ 0) (hbb : fits b = true) (h : (wrap64 (a * b)).tdiv b = a) : fits (a * b) = true := by
  obtain ⟨k, hk⟩ := wrap64_sub (a * b)
  have h1 := Int.mul_tdiv_add_tmod (wrap64 (a * b)) b
  rw [h, hk, Int.mul_comm b a] at h1
  have h2 : ((a * b - k * 18446744073709551616).tmod b).natAbs < b.natAbs := by
    rw [Int.natAbs_tmod]; exact Nat.mod_lt _ (by omega)
  have h3 := bd hbb
  have hk0 : k = 0 := by
    generalize (a * b - k * 18446744073709551616).tmod b = r at *
    omega
  rw [hk0, Int.zero_mul, Int.sub_zero] at hk
  rw [← hk]
  exact fits_wrap64 _
theorem mul_there {a b : Int} (hb0 : b ≠ 0) (hf : fits (a * b) = true) : (wrap64 (a * b)).tdiv b = a := by
  rw [w64_in hf]
  exact Int.mul_tdiv_cancel a hb0

theorem rmul_any (a b : Int) (w : World) (ha : fits a = true) (hb : fits b = true) :
    Calls Tryd.prog 42 #[.int .i64 a, .int .i64 b] w fun e w' => e = .returned (.tuple #[.int .i64 (val1 (a * b)), .int .i64 (err1 (a * b))]) ∧ w = w' := by
  by_cases a0 : a = 0
  · subst a0
    rw [Int.zero_mul]
    have e1 : val1 0 = 0 := by decide +kernel
    have e2 : err1 0 = 0 := by decide +kernel
    rw [e1, e2]
    clear e1 e2 ha hb
    go_enter Tryd.func42, Tryd.ntmps42
    go_wp2
    go_ret2
    exact ⟨rfl, rfl⟩
  · have g0 : (a == 0) = false := by simpa using a0
    by_cases b0 : b = 0
    · subst b0
      rw [Int.mul_zero]
      have e1 : val1 0 = 0 := by decide +kernel
      have e2 : err1 0 = 0 := by decide +kernel
      rw [e1, e2]
      clear e1 e2 ha hb
      go_enter Tryd.func42, Tryd.ntmps42
      go_wp2
      go_ret2
      exact ⟨rfl, rfl⟩
    · have g1 : (b == 0) = false := by simpa using b0
      by_cases a1 : a = -1
      · subst a1
        rw [Int.neg_one_mul]
        have C := Lib.hid (rneg_any b w hb)
        clear ha hb
        go_enter Tryd.func42, Tryd.ntmps42
        go_wp2_with (go_at_call 34; refine C.out.mono ?_; rintro e w' ⟨rfl, rfl⟩)
        go_ret2
        exact ⟨rfl, rfl⟩
      · have g2 : (a == -1) = false := by simpa using a1
        by_cases b1 : b = -1
        · subst b1
          rw [Int.mul_neg, Int.mul_one]
          have C := Lib.hid (rneg_any a w ha)
          clear ha hb
          go_enter Tryd.func42, Tryd.ntmps42
          go_wp2_with (go_at_call 34; refine C.out.mono ?_; rintro e w' ⟨rfl, rfl⟩)
          go_ret2
          exact ⟨rfl, rfl⟩
        · have g3 : (b == -1) = false := by simpa using b1
          have hw : wrap64 ((wrap64 (a * b)).tdiv b) = (wrap64 (a * b)).tdiv b := w64_in (fits_tdiv (fits_wrap64 _) b0 b1)
          cases hf : fits (a * b)
          · have e1 := Lib.hid (val1_no hf)
            have e2 := Lib.hid (err1_no hf)
            have gq : (wrap64 ((wrap64 (a * b)).tdiv b) == a) = false := by
              rw [hw, beq_eq_false_iff_ne]
              intro h
              rw [mul_back b0 hb h] at hf
              cases hf
            clear hw hf ha hb
            go_enter Tryd.func42, Tryd.ntmps42
            go_wp2
            go_ret2
            exact ⟨ret2 e1.out.symm e2.out.symm, rfl⟩
          · have e1 := Lib.hid ((w64_in hf).trans (val1_yes hf).symm)
            have e2 := Lib.hid (err1_yes hf)
            have gq : (wrap64 ((wrap64 (a * b)).tdiv b) == a) = true := by rw [hw, mul_there b0 hf]; simp
            clear hw hf ha hb
            go_enter Tryd.func42, Tryd.ntmps42
            go_wp2
            go_ret2
            exact ⟨ret2 e1.out e2.out.symm, rfl⟩

theorem same_any (x y : Int) (w : World) :
    Calls Tryd.prog 18 #[.int .i64 x, .int .i64 y, .int .i64 x, .int .i64 y] w fun e w' => e = .returned (.bool true) ∧ w = w' := by
  go_enter Tryd.func18, Tryd.ntmps18
  go_wp2
  go_ret
  exact ⟨rfl, rfl⟩

theorem below_grow (w : World) (k : Nat) (os : Array Obj) : Below w.heap.size w (Sort.grow (w.drewN k) os) :=
  ⟨rfl, rfl, rfl, by simp [Sort.grow], fun j hj => by simp [Sort.grow, Array.getElem?_append, hj]⟩

theorem text_any (x : Int) (w : World) (hx : fits x = true) (hT : Lib.TabIs Tryd.prog w "internal/strconv.uint64pow10" .u64 Lib.pow10Tab) :
    Calls Tryd.prog 41 #[.int .i64 x] w fun e w' => e = .returned (.string ⟨(Lib.itoa x).toArray⟩) ∧ Below w.heap.size w w' := by
  have C := Lib.hid (Tryd.strconv_FormatInt_10 x (bd hx).1 (bd hx).2 w hT)
  clear hx hT
  go_enter Tryd.func41, Tryd.ntmps41
  go_wp2_with (go_at_call 50; refine C.out.mono ?_; rintro e w' ⟨rfl, k, os, rfl⟩)
  go_ret
  exact ⟨rfl, below_grow _ _ _⟩
end Go.Proofs.YtcklidpfmpanhaaDoor
