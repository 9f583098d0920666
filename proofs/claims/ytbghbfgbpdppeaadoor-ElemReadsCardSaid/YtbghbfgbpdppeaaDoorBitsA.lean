
/- Fields of bits: what package ints and the document's answer return, for every word, place and number of bits. -/
import Derived.Test.YtbghbfgbpdppeaaDoorBitsM
import Derived.Test.YtbghbfgbpdppeaaDoorIntsE
namespace Go.Proofs.YtbghbfgbpdppeaaDoor
open Go.ChangeShapes Go.WideShapes Go.ChangeAt Go.RowKit

theorem and0 (x : Nat) (hx : x < 18446744073709551616) : bits .and .u64 (x : Int) 0 = 0 := by
  have := u64_and_nat x 0 hx (by decide)
  simpa using this
theorem andNot0 (x : Nat) (hx : x < 18446744073709551616) : bits .andNot .u64 (x : Int) 0 = x := by
  have := u64_andNot_nat x 0 hx (by decide)
  have e : x &&& (18446744073709551615 - 0) = x := by
    rw [show 18446744073709551615 - 0 = 2 ^ 64 - 1 by rfl, Nat.and_two_pow_sub_one_eq_mod]
    exact Nat.mod_eq_of_lt hx
  rw [e] at this
  exact this
theorem wrapNat (y : Nat) : IntKind.u64.wrap (y : Int) = ((y % 18446744073709551616 : Nat) : Int) := by rw [u64w]; rfl
theorem castpow (n : Nat) : ((2 ^ n : Nat) : Int) = (2 : Int) ^ n := by rw [Int.natCast_pow]; rfl

/-- the mask, where place and number are in range -/
theorem mask_in (a n : Nat) (w : World) (h1 : a < 64) (h2 : 1 ≤ n) :
    Calls Tryd.prog 70 #[.int .i64 a, .int .i64 n] w fun e w' => e = .returned (.int .u64 (msk a (min n (64 - a)) : Nat)) ∧ w = w' := by
  by_cases h3 : n < 64
  · have e := Lib.hid (show IntKind.u64.wrap (IntKind.u64.wrap (IntKind.u64.wrap (2 ^ n) - 1) * 2 ^ a) = ((msk a (min n (64 - a)) : Nat) : Int) by
      have hp : 2 ^ n < 2 ^ 64 := Nat.pow_lt_pow_right (by decide) h3
      have hq : 0 < 2 ^ n := Nat.two_pow_pos n
      rw [← castpow n, wrapNat, Nat.mod_eq_of_lt hp, show ((2 ^ n : Nat) : Int) - 1 = ((2 ^ n - 1 : Nat) : Int) by omega, wrapNat, Nat.mod_eq_of_lt (by omega), ← castpow a, ← Int.natCast_mul, wrapNat, msk_of a n h1])
    generalize msk a (min n (64 - a)) = m at *
    go_enter Tryd.func70, Tryd.ntmps70
    go_wp2
    go_ret
    exact ⟨ret1 e.out, rfl⟩
  · have e := Lib.hid (show IntKind.u64.wrap (18446744073709551615 * 2 ^ a) = ((msk a (min n (64 - a)) : Nat) : Int) by
      have := msk_of a 64 h1
      rw [show min 64 (64 - a) = min n (64 - a) by omega] at this
      rw [← castpow a, show (18446744073709551615 : Int) = ((2 ^ 64 - 1 : Nat) : Int) by rfl, ← Int.natCast_mul, wrapNat, this])
    generalize msk a (min n (64 - a)) = m at *
    go_enter Tryd.func70, Tryd.ntmps70
    go_wp2
    go_ret
    exact ⟨ret1 e.out, rfl⟩

theorem mask_out (a n : Int) (w : World) (h : a < 0 ∨ 64 ≤ a ∨ n < 1) :
    Calls Tryd.prog 70 #[.int .i64 a, .int .i64 n] w fun e w' => e = .returned (.int .u64 0) ∧ w = w' := by
  by_cases h1 : a < 0
  · go_enter Tryd.func70, Tryd.ntmps70
    go_wp2
    go_ret
    exact ⟨rfl, rfl⟩
  · by_cases h2 : 64 ≤ a
    · go_enter Tryd.func70, Tryd.ntmps70
      go_wp2
      go_ret
      exact ⟨rfl, rfl⟩
    · have h3 : n < 1 := by omega
      go_enter Tryd.func70, Tryd.ntmps70
      go_wp2
      go_ret
      exact ⟨rfl, rfl⟩

theorem get_any (x : Nat) (a n : Int) (w : World) (hx : x < 18446744073709551616) :
    Calls Tryd.prog 48 #[.int .u64 x, .int .i64 a, .int .i64 n] w fun e w' => e = .returned (.int .u64 (getV x a n : Nat)) ∧ w = w' := by
  by_cases hr : 0 ≤ a ∧ a < 64 ∧ 1 ≤ n
  · obtain ⟨h0, h1, h2⟩ := hr
    obtain ⟨A, rfl⟩ := Int.eq_ofNat_of_zero_le h0
    obtain ⟨N, rfl⟩ := Int.eq_ofNat_of_zero_le (show 0 ≤ n by omega)
    have hv : getV x A N = getC x A (min N (64 - A)) := by
      unfold getV cnt
      rw [if_pos (by omega)]; simp
    rw [hv]
    clear hv
    have C := fun W => mask_in A N W (by omega) (by omega)
    have e := Lib.hid (show bits .and .u64 (x : Int) (msk A (min N (64 - A)) : Nat) / 2 ^ (min (A : Int) 64).toNat = (getC x A (min N (64 - A)) : Nat) by
      rw [u64_and_nat _ _ hx (msk_lt (by omega)), show (min (A : Int) 64).toNat = A by omega, ← castpow A, ← Int.natCast_ediv, get_of])
    generalize msk A (min N (64 - A)) = m at *
    generalize getC x A (min N (64 - A)) = r at *
    go_enter Tryd.func48, Tryd.ntmps48
    go_wp2_with (go_at_call 70; refine (C _).mono ?_; rintro e w' ⟨rfl, rfl⟩)
    go_ret
    exact ⟨ret1 e.out, rfl⟩
  · have hv : getV x a n = 0 := by
      unfold getV cnt
      rw [if_neg hr, get_zero]
    rw [hv]
    clear hv
    have C := fun W => mask_out a n W (by omega)
    have e : ∀ s : Int, bits .and .u64 (x : Int) 0 / s = 0 := fun s => by rw [and0 x hx]; simp
    have H := Lib.hid e
    clear e hr
    go_enter Tryd.func48, Tryd.ntmps48
    go_wp2_with (go_at_call 70; refine (C _).mono ?_; rintro e w' ⟨rfl, rfl⟩)
    go_ret
    exact ⟨ret1 (H.out _), rfl⟩

theorem set_any (x v : Nat) (a n : Int) (w : World) (hx : x < 18446744073709551616) :
    Calls Tryd.prog 47 #[.int .u64 x, .int .i64 a, .int .i64 n, .int .u64 v] w fun e w' => e = .returned (.int .u64 (setV x a n v : Nat)) ∧ w = w' := by
  by_cases hr : 0 ≤ a ∧ a < 64 ∧ 1 ≤ n
  · obtain ⟨h0, h1, h2⟩ := hr
    obtain ⟨A, rfl⟩ := Int.eq_ofNat_of_zero_le h0
    obtain ⟨N, rfl⟩ := Int.eq_ofNat_of_zero_le (show 0 ≤ n by omega)
    have hv : setV x A N v = setC x A (min N (64 - A)) v := by
      unfold setV cnt
      rw [if_pos (by omega), if_pos (by omega)]; simp
    rw [hv]
    clear hv
    have C := fun W => mask_in A N W (by omega) (by omega)
    have e := Lib.hid (show bits .or .u64 (bits .andNot .u64 (x : Int) (msk A (min N (64 - A)) : Nat)) (bits .and .u64 (IntKind.u64.wrap ((v : Int) * 2 ^ (min (A : Int) 64).toNat)) (msk A (min N (64 - A)) : Nat)) = (setC x A (min N (64 - A)) v : Nat) by
      have hm := msk_lt (a := A) (c := min N (64 - A)) (by omega)
      have hb := Nat.lt_of_le_of_lt (Nat.and_le_left (n := x) (m := 18446744073709551615 - msk A (min N (64 - A)))) hx
      have hb2 := Nat.lt_of_le_of_lt (Nat.and_le_right (n := (v * 2 ^ A) % 18446744073709551616) (m := msk A (min N (64 - A)))) hm
      rw [u64_andNot_nat _ _ hx hm, show (min (A : Int) 64).toNat = A by omega, ← castpow A, ← Int.natCast_mul, wrapNat, u64_and_nat _ _ (Nat.mod_lt _ (by decide)) hm, u64_or_nat _ _ hb hb2, set_of])
    generalize msk A (min N (64 - A)) = m at *
    generalize setC x A (min N (64 - A)) v = r at *
    go_enter Tryd.func47, Tryd.ntmps47
    go_wp2_with (go_at_call 70; refine (C _).mono ?_; rintro e w' ⟨rfl, rfl⟩)
    go_ret
    exact ⟨ret1 e.out, rfl⟩
  · have hv : setV x a n v = x := by unfold setV; rw [if_neg hr]
    rw [hv]
    clear hv
    have C := fun W => mask_out a n W (by omega)
    have e : ∀ s : Int, bits .or .u64 (bits .andNot .u64 (x : Int) 0) (bits .and .u64 (IntKind.u64.wrap s) 0) = x := fun s => by
      have h1 : bits .and .u64 (IntKind.u64.wrap s) 0 = 0 := by
        rw [u64w]
        have := and0 (s % 18446744073709551616).toNat (by omega)
        rw [show ((s % 18446744073709551616).toNat : Int) = s % 18446744073709551616 by omega] at this
        exact this
      rw [h1, andNot0 x hx]
      have := u64_or_nat x 0 hx (by decide)
      simpa using this
    have H := Lib.hid e
    clear e hr
    go_enter Tryd.func47, Tryd.ntmps47
    go_wp2_with (go_at_call 70; refine (C _).mono ?_; rintro e w' ⟨rfl, rfl⟩)
    go_ret
    exact ⟨ret1 (H.out _), rfl⟩
end Go.Proofs.YtbghbfgbpdppeaaDoor
