/- IntsFields is true of every input: the walk, where the table of powers of ten stands. -/
import Derived.Test.YtcklidpfmpanhaaDoorIntsF
import Derived.Test.YtcklidpfmpanhaaDoorBitsB
namespace Go.Proofs.YtcklidpfmpanhaaDoor
open Go.ChangeShapes Go.WideShapes Go.ChangeAt Go.RowKit

theorem walk_IntsFields (x a n v : Int) (w0 : (Lit.int .u64 x).wf = true) (_w1 : (Lit.int .i64 a).wf = true) (w2 : (Lit.int .i64 n).wf = true) (w3 : (Lit.int .u64 v).wf = true) (w : World) (hT : Tabs w) :
    Calls Tryd.prog 8 #[.int .u64 x, .int .i64 a, .int .i64 n, .int .u64 v] w fun e w' => e = .returned (.bool true) ∧ Below w.heap.size w w' := by
  have K := Lib.hid (awake_any w hT)
  clear hT
  have hx0 := u64_wf w0
  have hv0 := u64_wf w3
  have hn := bd (fits_wf w2)
  clear w0 w2 w3
  obtain ⟨X, rfl⟩ := Int.eq_ofNat_of_zero_le hx0.1
  obtain ⟨V, rfl⟩ := Int.eq_ofNat_of_zero_le hv0.1
  have hx : X < 18446744073709551616 := by omega
  have hv : V < 18446744073709551616 := by omega
  clear hx0 hv0
  have C1 : ∀ W, Calls Tryd.prog 27 #[.int .u64 X, .int .i64 a, .int .i64 n, .int .u64 V] W fun e w' => e = .returned (.int .u64 (setV X a n V : Nat)) ∧ W = w' := fun W => set_any X V a n W hx
  have C2 : ∀ W, Calls Tryd.prog 28 #[.int .u64 X, .int .i64 a, .int .i64 n] W fun e w' => e = .returned (.int .u64 (getV X a n : Nat)) ∧ W = w' := fun W => get_any X a n W hx
  have C3 : ∀ W, Calls Tryd.prog 35 #[.int .u64 X, .int .i64 a, .int .i64 n] W fun e w' => e = .returned (.int .u64 (getV X a n : Nat)) ∧ W = w' := fun W => rget_any X a n W hx
  have C4 : ∀ W, Calls Tryd.prog 36 #[.int .u64 X, .int .i64 a, .int .i64 n, .int .u64 V] W fun e w' => e = .returned (.int .u64 (setV X a n V : Nat)) ∧ W = w' := fun W => rset_any X V a n W hx hv
  by_cases hr : 0 ≤ a ∧ a < 64 ∧ 1 ≤ n
  · have hs : setV X a n V = setC X a.toNat (cnt a n) V := by unfold setV; rw [if_pos hr]
    have hac : a.toNat + cnt a n ≤ 64 := by unfold cnt; rw [if_pos hr]; omega
    have hsl : setV X a n V < 18446744073709551616 := by rw [hs]; exact setC_lt hx hac
    have hgl : getV X a n < 18446744073709551616 := getC_lt X _ (cnt_le64 a n)
    have hk : cnt 0 (min n (64 - a)) = cnt a n := by unfold cnt; rw [if_pos hr, if_pos (by omega)]; omega
    have C5 : ∀ W, Calls Tryd.prog 28 #[.int .u64 (setV X a n V : Nat), .int .i64 a, .int .i64 n] W fun e w' => e = .returned (.int .u64 (getV V 0 (min n (64 - a)) : Nat)) ∧ W = w' := fun W => (get_any (setV X a n V) a n W hsl).mono fun e w' ⟨he, hw⟩ => ⟨he.trans (ret1 (by rw [show getV (setV X a n V) a n = getV V 0 (min n (64 - a)) by unfold getV; rw [hk, hs, get_set hx hac]; rfl])), hw⟩
    have C6 : ∀ W, Calls Tryd.prog 35 #[.int .u64 V, .int .i64 0, .int .i64 (min n (64 - a))] W fun e w' => e = .returned (.int .u64 (getV V 0 (min n (64 - a)) : Nat)) ∧ W = w' := fun W => rget_any V 0 (min n (64 - a)) W hv
    have C7 : ∀ W, Calls Tryd.prog 27 #[.int .u64 (setV X a n V : Nat), .int .i64 a, .int .i64 n, .int .u64 (getV X a n : Nat)] W fun e w' => e = .returned (.int .u64 X) ∧ W = w' := fun W => (set_any (setV X a n V) (getV X a n) a n W hsl).mono fun e w' ⟨he, hw⟩ => ⟨he.trans (ret1 (by rw [show setV (setV X a n V) a n (getV X a n) = X by rw [hs]; unfold setV getV; rw [if_pos hr, set_get hx hac]])), hw⟩
    clear hs hac hsl hgl hk
    generalize setV X a n V = S at *
    generalize getV X a n = G at *
    generalize getV V 0 (min n (64 - a)) = R at *
    obtain ⟨r0, r1, r2⟩ := hr
    go_enter Tryd.func8, Tryd.ntmps8
    go_wp2_with (first | (go_at_call 27; (with_reducible refine (C1 _).mono ?_); rintro e w' ⟨rfl, rfl⟩) | (go_at_call 28; (with_reducible refine (C2 _).mono ?_); rintro e w' ⟨rfl, rfl⟩) | (go_at_call 35; (with_reducible refine (C3 _).mono ?_); rintro e w' ⟨rfl, rfl⟩) | (go_at_call 36; (with_reducible refine (C4 _).mono ?_); rintro e w' ⟨rfl, rfl⟩) | (go_at_call 28; (with_reducible refine (C5 _).mono ?_); rintro e w' ⟨rfl, rfl⟩) | (go_at_call 35; (with_reducible refine (C6 _).mono ?_); rintro e w' ⟨rfl, rfl⟩) | (go_at_call 27; (with_reducible refine (C7 _).mono ?_); rintro e w' ⟨rfl, rfl⟩) | (go_at_call 19; (with_reducible refine K.out.mono ?_); rintro e w' ⟨rfl, hb⟩))
    go_ret
    exact ⟨rfl, hb⟩
  · have hs := Lib.hid (show setV X a n V = X by unfold setV; rw [if_neg hr])
    have gq : ((setV X a n V : Int) == (X : Int)) = true := by rw [hs.out]; simp
    generalize setV X a n V = S at *
    generalize getV X a n = G at *
    by_cases q1 : a < 0
    · clear hr
      go_enter Tryd.func8, Tryd.ntmps8
      go_wp2_with (first | (go_at_call 27; (with_reducible refine (C1 _).mono ?_); rintro e w' ⟨rfl, rfl⟩) | (go_at_call 28; (with_reducible refine (C2 _).mono ?_); rintro e w' ⟨rfl, rfl⟩) | (go_at_call 35; (with_reducible refine (C3 _).mono ?_); rintro e w' ⟨rfl, rfl⟩) | (go_at_call 36; (with_reducible refine (C4 _).mono ?_); rintro e w' ⟨rfl, rfl⟩) | (go_at_call 19; (with_reducible refine K.out.mono ?_); rintro e w' ⟨rfl, hb⟩))
      go_ret
      exact ⟨rfl, hb⟩
    · by_cases q2 : 63 < a
      · clear hr
        go_enter Tryd.func8, Tryd.ntmps8
        go_wp2_with (first | (go_at_call 27; (with_reducible refine (C1 _).mono ?_); rintro e w' ⟨rfl, rfl⟩) | (go_at_call 28; (with_reducible refine (C2 _).mono ?_); rintro e w' ⟨rfl, rfl⟩) | (go_at_call 35; (with_reducible refine (C3 _).mono ?_); rintro e w' ⟨rfl, rfl⟩) | (go_at_call 36; (with_reducible refine (C4 _).mono ?_); rintro e w' ⟨rfl, rfl⟩) | (go_at_call 19; (with_reducible refine K.out.mono ?_); rintro e w' ⟨rfl, hb⟩))
        go_ret
        exact ⟨rfl, hb⟩
      · have q3 : n < 1 := by omega
        clear hr
        go_enter Tryd.func8, Tryd.ntmps8
        go_wp2_with (first | (go_at_call 27; (with_reducible refine (C1 _).mono ?_); rintro e w' ⟨rfl, rfl⟩) | (go_at_call 28; (with_reducible refine (C2 _).mono ?_); rintro e w' ⟨rfl, rfl⟩) | (go_at_call 35; (with_reducible refine (C3 _).mono ?_); rintro e w' ⟨rfl, rfl⟩) | (go_at_call 36; (with_reducible refine (C4 _).mono ?_); rintro e w' ⟨rfl, rfl⟩) | (go_at_call 19; (with_reducible refine K.out.mono ?_); rintro e w' ⟨rfl, hb⟩))
        go_ret
        exact ⟨rfl, hb⟩
end Go.Proofs.YtcklidpfmpanhaaDoor
