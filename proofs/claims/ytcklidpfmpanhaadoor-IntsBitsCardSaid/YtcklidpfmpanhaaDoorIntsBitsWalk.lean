/- IntsBits is true of every input: the walk, where the table of powers of ten stands. -/
import Derived.Test.YtcklidpfmpanhaaDoorIntsF
import Derived.Test.YtcklidpfmpanhaaDoorBitsB
import Derived.Test.YtcklidpfmpanhaaDoorBitsN
namespace Go.Proofs.YtcklidpfmpanhaaDoor
open Go.ChangeShapes Go.WideShapes Go.ChangeAt Go.RowKit

theorem and_range (n : Int) : 0 ≤ bits .and .i64 n 65535 ∧ bits .and .i64 n 65535 ≤ 65535 := by
  have h : (BitVec.ofInt 64 n &&& BitVec.ofInt 64 65535).toNat ≤ 65535 := by
    rw [BitVec.toNat_and]
    exact Nat.and_le_right
  have e : bits .and .i64 n 65535 = IntKind.i64.wrap ((BitVec.ofInt 64 n &&& BitVec.ofInt 64 65535).toNat : Int) := rfl
  rw [e]
  generalize (BitVec.ofInt 64 n &&& BitVec.ofInt 64 65535).toNat = y at *
  have : IntKind.i64.wrap (y : Int) = y := by
    simp [IntKind.wrap, IntKind.bits, IntKind.signed]; split <;> omega
  rw [this]; omega
theorem get_whole {X : Nat} (hx : X < 18446744073709551616) : getV X 0 99 = X := by
  have : cnt 0 99 = 64 := by decide
  unfold getV getC
  rw [this]
  simp
  omega

set_option maxRecDepth 100000 in
theorem walk_IntsBits (x n : Int) (w0 : (Lit.int .u64 x).wf = true) (_w1 : (Lit.int .i64 n).wf = true) (w : World) (hT : Tabs w) :
    Calls Tryd.prog 6 #[.int .u64 x, .int .i64 n] w fun e w' => e = .returned (.bool true) ∧ Below w.heap.size w w' := by
  have K := Lib.hid (awake_any w hT)
  clear hT
  have hx0 := u64_wf w0
  clear w0
  obtain ⟨X, rfl⟩ := Int.eq_ofNat_of_zero_le hx0.1
  have hx : X < 18446744073709551616 := by omega
  clear hx0
  obtain ⟨m0, m1⟩ := and_range n
  go_enter Tryd.func6, Tryd.ntmps6
  go_wp2_with fail
  obtain ⟨N, hN⟩ : ∃ N : Nat, bits BinOp.and IntKind.i64 n 65535 % 16 + 1 = (N : Int) := ⟨(bits BinOp.and IntKind.i64 n 65535 % 16 + 1).toNat, by omega⟩
  have n0 : 1 ≤ N := by omega
  have n1 : N ≤ 16 := by omega
  rw [hN]
  clear hN m0 m1
  go_loop [5, 6] (fun o i => ∃ k : Nat, k ≤ 79 ∧ i = .int .i64 k ∧ o = .int .u64 (X % 2 ^ (min k 64) : Nat)) (fun _ i => 80 - (intOf i).toNat)
  case atStart => exact ⟨0, by omega, rfl, by simp [Nat.mod_one]⟩
  case round =>
    obtain ⟨k, hk, rfl, rfl⟩ := hrel
    by_cases c1 : k < 64
    · have hc : cnt k N = min N (64 - k) := by unfold cnt; rw [if_pos (by omega)]; simp
      have e : setV (X % 2 ^ k) k N (getV X k N) = X % 2 ^ (min (k + N) 64) := by
        unfold setV getV
        rw [if_pos (by omega), hc]
        simp only [Int.toNat_natCast]
        rw [put_more hx (by omega), show min (k + N) 64 = k + min N (64 - k) by omega]
      have hlt : X % 2 ^ k < 18446744073709551616 := Nat.lt_of_le_of_lt (Nat.mod_le _ _) hx
      have C1 : ∀ W, Calls Tryd.prog 28 #[.int .u64 X, .int .i64 k, .int .i64 N] W fun e w' => e = .returned (.int .u64 (getV X k N : Nat)) ∧ W = w' := fun W => get_any X k N W hx
      have C2 : ∀ W, Calls Tryd.prog 27 #[.int .u64 (X % 2 ^ (min k 64) : Nat), .int .i64 k, .int .i64 N, .int .u64 (getV X k N : Nat)] W fun e w' => e = .returned (.int .u64 (X % 2 ^ (min (k + N) 64) : Nat)) ∧ W = w' := fun W => by
        rw [show min k 64 = k by omega]
        exact (set_any _ _ k N W hlt).mono fun e' w' ⟨he, hw⟩ => ⟨he.trans (ret1 (by rw [e])), hw⟩
      clear hc e hlt
      generalize getV X k N = g at *
      generalize hu : X % 2 ^ (min k 64) = u at *
      generalize hv : X % 2 ^ (min (k + N) 64) = v at *
      replace hu := Lib.hid hu
      replace hv := Lib.hid hv
      go_wp2_with (first | (go_at_call 28; (with_reducible refine (C1 _).mono ?_); rintro e w' ⟨rfl, rfl⟩) | (go_at_call 27; (with_reducible refine (C2 _).mono ?_); rintro e w' ⟨rfl, rfl⟩))
      go_round
      case rel => exact ⟨k + N, by omega, by go_num, by rw [hv.out]⟩
      case measure => simp [intOf]; omega
    · have e := Lib.hid (show X % 2 ^ (min k 64) = X by rw [show min k 64 = 64 by omega]; exact Nat.mod_eq_of_lt hx)
      generalize X % 2 ^ (min k 64) = u at *
      obtain rfl := e.out
      clear e
      go_wp2_with fail
      go_loop [7, 8] (fun o i => ∃ k : Nat, k ≤ 64 ∧ i = .int .i64 k ∧ o = .int .i64 (pc u k : Nat)) (fun _ i => 64 - (intOf i).toNat)
      case atStart => exact ⟨0, by omega, rfl, rfl⟩
      case round =>
        obtain ⟨j, hj, rfl, rfl⟩ := hrel
        have hpj := pc_le u j
        by_cases c2 : j < 64
        · have hc : cnt j 1 = 1 := by unfold cnt; rw [if_pos (by omega)]; simp; omega
          have hg : getV u j 1 = if u.testBit j then 1 else 0 := by
            unfold getV
            rw [hc]
            simp only [Int.toNat_natCast]
            exact get_one u j
          have hp : pc u (j + 1) = pc u j + getV u j 1 := by rw [hg]; rfl
          have hg1 : getV u j 1 ≤ 1 := by rw [hg]; split <;> omega
          have C3 : ∀ W, Calls Tryd.prog 28 #[.int .u64 u, .int .i64 j, .int .i64 1] W fun e w' => e = .returned (.int .u64 (getV u j 1 : Nat)) ∧ W = w' := fun W => get_any u j 1 W hx
          clear hc hg
          generalize getV u j 1 = g at *
          replace hp := Lib.hid hp
          go_wp2_with (go_at_call 28; (with_reducible refine (C3 _).mono ?_); rintro e w' ⟨rfl, rfl⟩)
          go_round
          case rel => exact ⟨j + 1, by omega, by go_num, by rw [hp.out]; go_num⟩
          case measure => simp [intOf]; omega
        · have hj64 : j = 64 := by omega
          subst hj64
          generalize hP : pc u 64 = P at *
          go_wp2_with fail
          go_loop [9, 10] (fun o i => ∃ m y : Nat, m ≤ 64 ∧ o = .int .i64 m ∧ i = .int .u64 y ∧ y < 18446744073709551616 ∧ Hid (pc y 64 + m = P)) (fun _ i => (intOf i).toNat)
          case atStart => exact ⟨0, u, by omega, rfl, rfl, hx, Lib.hid (by rw [hP]; rfl)⟩
          case round =>
            obtain ⟨m, y, hm, rfl, rfl, hy, hpm⟩ := hrel
            replace hP := Lib.hid hP
            by_cases c3 : 0 < y
            · have hs := pc_step c3 hy
              have hl := and_less c3
              have e' := Lib.hid (show bits .and .u64 (y : Int) ((y : Int) - 1) = (y &&& (y - 1) : Nat) by
                rw [show (y : Int) - 1 = ((y - 1 : Nat) : Int) by omega, u64_and_nat _ _ hy (by omega)])
              generalize y &&& (y - 1) = z at *
              have hpz := pc_le z 64
              have hm1 : m + 1 ≤ 64 := by have := hpm.out; have := pc_le u 64; have := hP.out; omega
              have hpm2 := Lib.hid (show pc z 64 + (m + 1) = P by have := hpm.out; omega)
              clear hs hpz
              go_wp2
              go_round
              case rel => exact ⟨m + 1, z, hm1, by go_num, by rw [← e'.out], by omega, hpm2⟩
              case measure => simp [intOf]; rw [e'.out]; omega
            · have y0 : y = 0 := by omega
              subst y0
              have hmP : m = P := by have := hpm.out; rw [pc_zero] at this; omega
              subst hmP
              have C4 : ∀ W, Calls Tryd.prog 28 #[.int .u64 u, .int .i64 0, .int .i64 99] W fun e w' => e = .returned (.int .u64 u) ∧ W = w' := fun W => (get_any u 0 99 W hx).mono fun e w' ⟨he, hw⟩ => ⟨he.trans (ret1 (by rw [get_whole hx])), hw⟩
              go_wp2_with (first | (go_at_call 28; (with_reducible refine (C4 _).mono ?_); rintro e w' ⟨rfl, rfl⟩) | (go_at_call 19; (with_reducible refine K.out.mono ?_); rintro e w' ⟨rfl, hb⟩))
              go_ret
              exact ⟨rfl, hb⟩
end Go.Proofs.YtcklidpfmpanhaaDoor
