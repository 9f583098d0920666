/- IntsPowers is true of every input: the walk, where the table of powers of ten stands. -/
import Derived.Test.YtcklidpfmpanhaaDoorIntsF
import Derived.Test.YtcklidpfmpanhaaDoorIntsG
import Derived.Test.YtcklidpfmpanhaaDoorBitsA
namespace Go.Proofs.YtcklidpfmpanhaaDoor
open Go.ChangeShapes Go.WideShapes Go.ChangeAt Go.RowKit

theorem and_range' (n : Int) : 0 ≤ bits .and .i64 n 65535 ∧ bits .and .i64 n 65535 ≤ 65535 := by
  have h : (BitVec.ofInt 64 n &&& BitVec.ofInt 64 65535).toNat ≤ 65535 := by
    rw [BitVec.toNat_and]
    exact Nat.and_le_right
  have e : bits .and .i64 n 65535 = IntKind.i64.wrap ((BitVec.ofInt 64 n &&& BitVec.ofInt 64 65535).toNat : Int) := rfl
  rw [e]
  generalize (BitVec.ofInt 64 n &&& BitVec.ofInt 64 65535).toNat = y at *
  have : IntKind.i64.wrap (y : Int) = y := by
    simp [IntKind.wrap, IntKind.bits, IntKind.signed]; split <;> omega
  rw [this]; omega

theorem get_low (X N : Nat) (hN : N ≤ 62) : getV X 0 N = X % 2 ^ N := by
  have hc : cnt 0 N = N := by unfold cnt; split <;> (try simp) <;> omega
  unfold getV getC
  rw [hc]
  simp

/-- the numbers of the statement -/
theorem powers {a : Int} {N : Nat} (ha0 : -9223372036854775808 ≤ a) (ha1 : a ≤ 9223372036854775807) (hN : N ≤ 62) :
    ∃ P : Nat, 2 ^ N = P ∧ 0 < P ∧ P ≤ 4611686018427387904 ∧ fits (a / (P : Int) * P) = true ∧ 0 ≤ a - a / (P : Int) * P ∧ a - a / (P : Int) * P < P ∧
      getV (a % 18446744073709551616).toNat 0 N = (a - a / (P : Int) * P).toNat := by
  have hs : 2 ^ N * 2 ^ (62 - N) = 4611686018427387904 := by rw [← Nat.pow_add, show N + (62 - N) = 62 by omega]
  have hp : 0 < 2 ^ N := Nat.pow_pos (by decide)
  have hq : 0 < 2 ^ (62 - N) := Nat.pow_pos (by decide)
  have hg := get_low (a % 18446744073709551616).toNat N hN
  rw [hg]
  refine ⟨2 ^ N, rfl, hp, ?_, ?_, ?_, ?_, ?_⟩
  · rw [← hs]; exact Nat.le_mul_of_pos_right _ hq
  all_goals
    generalize 2 ^ N = P at *
    generalize 2 ^ (62 - N) = Q at *
    have h1 := Int.mul_ediv_add_emod a P
    have h2 := Int.emod_nonneg a (show (P : Int) ≠ 0 by omega)
    have h3 := Int.emod_lt_of_pos a (show (0 : Int) < P by omega)
    have h4 : -(2 * (Q : Int)) ≤ a / P := by
      rw [Int.le_ediv_iff_mul_le (by omega)]
      have : (Q : Int) * P = 4611686018427387904 := by rw [Int.mul_comm, ← Int.natCast_mul, hs]; rfl
      rw [Int.neg_mul, Int.mul_assoc, this]
      omega
    rw [Int.mul_comm] at h1
  · apply fits_mk
    · have h5 : -(2 * (Q : Int)) * P ≤ a / P * P := Int.mul_le_mul_of_nonneg_right h4 (by omega)
      have : (Q : Int) * P = 4611686018427387904 := by rw [Int.mul_comm, ← Int.natCast_mul, hs]; rfl
      rw [Int.neg_mul, Int.mul_assoc, this] at h5
      omega
    · omega
  · omega
  · omega
  · have e : a - a / (P : Int) * P = a % P := by omega
    rw [e]
    have hd : (P : Int) ∣ 18446744073709551616 := ⟨4 * Q, by
      have : (P : Int) * Q = 4611686018427387904 := by rw [← Int.natCast_mul, hs]; rfl
      rw [Int.mul_left_comm, this]
      rfl⟩
    have h6 : a % 18446744073709551616 % P = a % P := Int.emod_emod_of_dvd a hd
    have h7 : 0 ≤ a % 18446744073709551616 := Int.emod_nonneg _ (by decide)
    rw [← h6]
    generalize a % 18446744073709551616 = b at *
    obtain ⟨c, rfl⟩ := Int.eq_ofNat_of_zero_le h7
    rfl

set_option maxRecDepth 100000 in
theorem walk_IntsPowers (a n : Int) (w0 : (Lit.int .i64 a).wf = true) (_w1 : (Lit.int .i64 n).wf = true) (w : World) (hT : Tabs w) :
    Calls Tryd.prog 10 #[.int .i64 a, .int .i64 n] w fun e w' => e = .returned (.bool true) ∧ Below w.heap.size w w' := by
  have fa := fits_wf w0
  have ha := bd fa
  clear w0
  obtain ⟨m0, m1⟩ := and_range' n
  go_enter Tryd.func10, Tryd.ntmps10
  go_wp2_with fail
  obtain ⟨N, hN⟩ : ∃ N : Nat, bits BinOp.and IntKind.i64 n 65535 % 63 = (N : Int) := ⟨(bits BinOp.and IntKind.i64 n 65535 % 63).toNat, by omega⟩
  have n1 : N ≤ 62 := by omega
  rw [hN]
  clear hN m0 m1
  obtain ⟨P, hP, p0, p1, fY, z0, z1, hG⟩ := powers ha.1 ha.2 n1
  have hPi : (2 : Int) ^ N = P := by rw [← hP, Int.natCast_pow]; rfl
  have i1 : inSh (N : Int) = true := by rw [inSh_iff]; omega
  have s1 : shlV 1 N = P := by unfold shlV; rw [if_pos i1, Int.toNat_natCast, Int.one_mul, hPi]; exact val1_yes (fits_mk (by omega) (by omega))
  have s2 : shlE 1 N = 0 := by unfold shlE; rw [if_pos i1, Int.toNat_natCast, Int.one_mul, hPi]; exact err1_yes (fits_mk (by omega) (by omega))
  have s3 : shrV a N = a / P := by unfold shrV; rw [if_pos i1, Int.toNat_natCast, hPi]
  have s4 : shrE N = 0 := by unfold shrE; rw [if_pos i1]
  have fX : fits (a / (P : Int)) = true := by have := shr_fits fa N; rwa [hPi] at this
  have fP : fits (P : Int) = true := fits_mk (by omega) (by omega)
  have C1 : ∀ W, Calls Tryd.prog 23 #[.int .i64 1, .int .i64 N] W fun e w' => e = .returned (.tuple #[.int .i64 P, .int .i64 0]) ∧ W = w' := fun W => (shl_any 1 N W).mono fun e w' ⟨he, hw⟩ => ⟨he.trans (ret2 s1 s2), hw⟩
  have C2 : ∀ W, Calls Tryd.prog 25 #[.int .i64 a, .int .i64 N] W fun e w' => e = .returned (.tuple #[.int .i64 (a / P), .int .i64 0]) ∧ W = w' := fun W => (shr_any a N W).mono fun e w' ⟨he, hw⟩ => ⟨he.trans (ret2 s3 s4), hw⟩
  have C3 : ∀ W, Calls Tryd.prog 39 #[.int .i64 (a / P), .int .i64 P] W fun e w' => e = .returned (.tuple #[.int .i64 (a / P * P), .int .i64 0]) ∧ W = w' := fun W => (mul_any _ _ W fX fP).mono fun e w' ⟨he, hw⟩ => ⟨he.trans (ret2 (val1_yes fY) (err1_yes fY)), hw⟩
  have fZ : fits (a - a / (P : Int) * P) = true := fits_mk (by omega) (by omega)
  have C4 : ∀ W, Calls Tryd.prog 31 #[.int .i64 a, .int .i64 (a / P * P)] W fun e w' => e = .returned (.tuple #[.int .i64 (a - a / P * P), .int .i64 0]) ∧ W = w' := fun W => (sub_any _ _ W fa fY).mono fun e w' ⟨he, hw⟩ => ⟨he.trans (ret2 (val1_yes fZ) (err1_yes fZ)), hw⟩
  have a0 : 0 ≤ a % 18446744073709551616 := Int.emod_nonneg _ (by decide)
  have C5 : ∀ W, Calls Tryd.prog 28 #[.int .u64 (IntKind.u64.wrap a), .int .i64 0, .int .i64 N] W fun e w' => e = .returned (.int .u64 (a - a / P * P)) ∧ W = w' := fun W => by
    rw [u64w]
    have h := get_any (a % 18446744073709551616).toNat 0 N W (by omega)
    rw [hG, Int.toNat_of_nonneg a0, Int.toNat_of_nonneg z0] at h
    exact h
  have C6 : ∀ W, Calls Tryd.prog 40 #[.int .i64 P] W fun e w' => e = .returned (.string ⟨(Lib.itoa P).toArray⟩) ∧ W = w' := fun W => by
    rw [Lib.itoa_nonneg]
    exact rtext_pos P W (by omega)
  have C7 := Lib.hid (text_any P w fP hT)
  have hT' := Lib.hid hT
  clear s1 s2 s3 s4 i1 hPi hP fX fP fY fZ hG hT fa a0
  generalize a / (P : Int) = X at *
  generalize X * (P : Int) = Y at *
  obtain ⟨Z, hZ⟩ : ∃ Z : Int, a - Y = Z := ⟨_, rfl⟩
  rw [hZ] at C4 C5 z0 z1
  clear hZ
  generalize (Lib.itoa (P : Int)).toArray = T at *
  go_wp2_with (first | (go_at_call 23; (with_reducible refine (C1 _).mono ?_); rintro e w' ⟨rfl, rfl⟩) | (go_at_call 25; (with_reducible refine (C2 _).mono ?_); rintro e w' ⟨rfl, rfl⟩) | (go_at_call 39; (with_reducible refine (C3 _).mono ?_); rintro e w' ⟨rfl, rfl⟩) | (go_at_call 31; (with_reducible refine (C4 _).mono ?_); rintro e w' ⟨rfl, rfl⟩) | (go_at_call 28; (with_reducible refine (C5 _).mono ?_); rintro e w' ⟨rfl, rfl⟩) | (go_at_call 40; (with_reducible refine (C6 _).mono ?_); rintro e w' ⟨rfl, rfl⟩) | (go_at_call 41; (with_reducible refine C7.out.mono ?_); rintro e w1 ⟨rfl, hb1⟩) | (go_at_call 19; (with_reducible refine (awake_any w1 (hT'.out.below hb1)).mono ?_); rintro e w2 ⟨rfl, hb2⟩))
  go_ret
  exact ⟨rfl, hb1.trans (hb2.mono hb1.size)⟩
end Go.Proofs.YtcklidpfmpanhaaDoor
