/- Fields of bits, bit by bit: what the document's answer returns, for every word, place and number of bits. -/
import Derived.Test.YtcklidpfmpanhaaDoorBitsA
namespace Go.Proofs.YtcklidpfmpanhaaDoor
open Go.ChangeShapes Go.WideShapes Go.ChangeAt Go.RowKit

theorem bit_int (x j : Nat) (hx : x < 18446744073709551616) : (bits .and .u64 ((x : Int) / 2 ^ j) 1 == 1) = x.testBit j := by
  have hd : x / 2 ^ j < 18446744073709551616 := Nat.lt_of_le_of_lt (Nat.div_le_self _ _) hx
  have h1 := u64_and_nat (x / 2 ^ j) 1 hd (by decide)
  rw [Int.natCast_ediv, castpow] at h1
  rw [show (1 : Int) = ((1 : Nat) : Int) by rfl, h1, Nat.testBit, Nat.shiftRight_eq_div_pow, Nat.and_comm 1]
  have hy : x / 2 ^ j &&& 1 ≤ 1 := Nat.and_le_right
  generalize x / 2 ^ j &&& 1 = y at *
  rcases (show y = 0 ∨ y = 1 by omega) with rfl | rfl <;> rfl

theorem rget_any (x : Nat) (a n : Int) (w : World) (hx : x < 18446744073709551616) :
    Calls Tryd.prog 35 #[.int .u64 x, .int .i64 a, .int .i64 n] w fun e w' => e = .returned (.int .u64 (getV x a n : Nat)) ∧ w = w' := by
  by_cases hr : 0 ≤ a ∧ a < 64 ∧ 1 ≤ n
  · obtain ⟨h0, h1, h2⟩ := hr
    obtain ⟨A, rfl⟩ := Int.eq_ofNat_of_zero_le h0
    obtain ⟨N, rfl⟩ := Int.eq_ofNat_of_zero_le (show 0 ≤ n by omega)
    have hv : getV x A N = getC x A (min N (64 - A)) := by
      unfold getV cnt
      rw [if_pos (by omega)]; simp
    rw [hv]
    clear hv
    have g1 : A < 64 := by omega
    have g2 : 1 ≤ N := by omega
    have hz := Lib.hid (get_zero x A)
    go_enter Tryd.func35, Tryd.ntmps35
    go_wp2_with fail
    go_loop [7, 8] (fun o i => ∃ k : Nat, k ≤ N ∧ A + k ≤ 64 ∧ i = .int .i64 k ∧ o = .int .u64 (getC x A k : Nat)) (fun _ i => N - (intOf i).toNat)
    case atStart => exact ⟨0, by omega, by omega, rfl, by rw [hz.out]; rfl⟩
    case round =>
      obtain ⟨k, hk, hak, rfl, rfl⟩ := hrel
      by_cases c1 : k < N
      · by_cases c2 : A + k < 64
        · have hbit := bit_int x (A + k) hx
          have hgl := getC_lt x A (c := k) (by omega)
          cases hb : x.testBit (A + k)
          · rw [hb] at hbit
            have e := Lib.hid (get_no x A k hb)
            clear hb hgl
            go_wp2
            go_round
            case rel => exact ⟨k + 1, by omega, by omega, by go_num, by rw [e.out]⟩
            case measure => simp [intOf]; omega
          · rw [hb] at hbit
            have e := Lib.hid (get_yes x A k hb)
            have hp : 2 ^ k < 2 ^ 64 := Nat.pow_lt_pow_right (by decide) (by omega)
            have e2 := Lib.hid (show bits .or .u64 (getC x A k : Nat) (IntKind.u64.wrap (2 ^ k)) = (getC x A (k + 1) : Nat) by
              rw [← castpow k, wrapNat, Nat.mod_eq_of_lt hp, u64_or_nat _ _ hgl hp, e.out])
            clear hb hgl hp e
            generalize hy1 : getC x A (k + 1) = r at *
            replace hy1 := Lib.hid hy1
            generalize hy2 : getC x A k = y at *
            replace hy2 := Lib.hid hy2
            go_wp2
            go_round
            case rel => exact ⟨k + 1, by omega, by omega, by go_num, by rw [hy1.out, ← e2.out]⟩
            case measure => simp [intOf]; omega
        · have hkk := Lib.hid (show k = min N (64 - A) by omega)
          go_wp2
          go_ret
          exact ⟨ret1 (by rw [← hkk.out]), rfl⟩
      · have hkk := Lib.hid (show k = min N (64 - A) by omega)
        go_wp2
        go_ret
        exact ⟨ret1 (by rw [← hkk.out]), rfl⟩
  · have hv : getV x a n = 0 := by
      unfold getV cnt
      rw [if_neg hr, get_zero]
    rw [hv]
    clear hv
    by_cases q1 : a < 0
    · go_enter Tryd.func35, Tryd.ntmps35
      go_wp2
      go_ret
      exact ⟨rfl, rfl⟩
    · by_cases q2 : 63 < a
      · go_enter Tryd.func35, Tryd.ntmps35
        go_wp2
        go_ret
        exact ⟨rfl, rfl⟩
      · have q3 : n < 1 := by omega
        go_enter Tryd.func35, Tryd.ntmps35
        go_wp2
        go_ret
        exact ⟨rfl, rfl⟩

theorem rset_any (x v : Nat) (a n : Int) (w : World) (hx : x < 18446744073709551616) (hvv : v < 18446744073709551616) :
    Calls Tryd.prog 36 #[.int .u64 x, .int .i64 a, .int .i64 n, .int .u64 v] w fun e w' => e = .returned (.int .u64 (setV x a n v : Nat)) ∧ w = w' := by
  by_cases hr : 0 ≤ a ∧ a < 64 ∧ 1 ≤ n
  · obtain ⟨h0, h1, h2⟩ := hr
    obtain ⟨A, rfl⟩ := Int.eq_ofNat_of_zero_le h0
    obtain ⟨N, rfl⟩ := Int.eq_ofNat_of_zero_le (show 0 ≤ n by omega)
    have hv : setV x A N v = setC x A (min N (64 - A)) v := by
      unfold setV cnt
      rw [if_pos (by omega), if_pos (by omega)]; simp
    rw [hv]
    clear hv
    have g1 : A < 64 := by omega
    have g2 : 1 ≤ N := by omega
    have hz := Lib.hid (set_zero (x := x) A v hx (by omega))
    go_enter Tryd.func36, Tryd.ntmps36
    go_wp2_with fail
    go_loop [0, 9] (fun o i => ∃ k : Nat, k ≤ N ∧ A + k ≤ 64 ∧ i = .int .i64 k ∧ o = .int .u64 (setC x A k v : Nat)) (fun _ i => N - (intOf i).toNat)
    case atStart => exact ⟨0, by omega, by omega, rfl, by rw [hz.out]⟩
    case round =>
      obtain ⟨k, hk, hak, rfl, rfl⟩ := hrel
      by_cases c1 : k < N
      · by_cases c2 : A + k < 64
        · have hbit := bit_int v k hvv
          have hsl := setC_lt (x := x) (a := A) (c := k) (v := v) hx (by omega)
          have hp : 2 ^ (A + k) < 2 ^ 64 := Nat.pow_lt_pow_right (by decide) c2
          have hn : bits .andNot .u64 (setC x A k v : Nat) (IntKind.u64.wrap (2 ^ (A + k))) = ((setC x A k v &&& (18446744073709551615 - 2 ^ (A + k)) : Nat) : Int) := by
            rw [← castpow (A + k), wrapNat, Nat.mod_eq_of_lt hp, u64_andNot_nat _ _ hsl hp]
          cases hb : v.testBit k
          · rw [hb] at hbit
            have e := Lib.hid (hn.trans (by rw [← set_no hx c2 hb]))
            clear hb hsl hn hp
            go_wp2
            go_round
            case rel => exact ⟨k + 1, by omega, by omega, by go_num, by rw [← e.out]⟩
            case measure => simp [intOf]; omega
          · rw [hb] at hbit
            have hal := Nat.lt_of_le_of_lt (Nat.and_le_left (n := setC x A k v) (m := 18446744073709551615 - 2 ^ (A + k))) hsl
            have e := Lib.hid (show bits .or .u64 (bits .andNot .u64 (setC x A k v : Nat) (IntKind.u64.wrap (2 ^ (A + k)))) (IntKind.u64.wrap (2 ^ (A + k))) = (setC x A (k + 1) v : Nat) by
              rw [hn, ← castpow (A + k), wrapNat, Nat.mod_eq_of_lt hp, u64_or_nat _ _ hal hp, ← set_yes hx c2 hb])
            clear hb hsl hn hp hal
            go_wp2
            go_round
            case rel => exact ⟨k + 1, by omega, by omega, by go_num, by rw [← e.out]⟩
            case measure => simp [intOf]; omega
        · have hkk := Lib.hid (show k = min N (64 - A) by omega)
          go_wp2
          go_ret
          exact ⟨ret1 (by rw [← hkk.out]), rfl⟩
      · have hkk := Lib.hid (show k = min N (64 - A) by omega)
        go_wp2
        go_ret
        exact ⟨ret1 (by rw [← hkk.out]), rfl⟩
  · have hv : setV x a n v = x := by unfold setV; rw [if_neg hr]
    rw [hv]
    clear hv
    by_cases q1 : a < 0
    · go_enter Tryd.func36, Tryd.ntmps36
      go_wp2
      go_ret
      exact ⟨rfl, rfl⟩
    · by_cases q2 : 63 < a
      · go_enter Tryd.func36, Tryd.ntmps36
        go_wp2
        go_ret
        exact ⟨rfl, rfl⟩
      · have q3 : n < 1 := by omega
        go_enter Tryd.func36, Tryd.ntmps36
        go_wp2
        go_ret
        exact ⟨rfl, rfl⟩
end Go.Proofs.YtcklidpfmpanhaaDoor
