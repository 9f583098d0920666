/- IntsProducts is true of every input: the walk, where the table of powers of ten stands. -/
import Derived.Test.YtcklidpfmpanhaaDoorIntsF
namespace Go.Proofs.YtcklidpfmpanhaaDoor
open Go.ChangeShapes Go.WideShapes Go.ChangeAt Go.RowKit

theorem walk_IntsProducts (a b : Int) (w0 : (Lit.int .i64 a).wf = true) (w1 : (Lit.int .i64 b).wf = true) (w : World) (hT : Tabs w) :
    Calls Tryd.prog 11 #[.int .i64 a, .int .i64 b] w fun e w' => e = .returned (.bool true) ∧ Below w.heap.size w w' := by
  have ha := fits_wf w0
  have hb := fits_wf w1
  clear w0 w1
  have K := Lib.hid (awake_any w hT)
  clear hT
  have M1 : ∀ W, Calls Tryd.prog 39 #[.int .i64 a, .int .i64 b] W fun e w' => e = .returned (.tuple #[.int .i64 (val1 (a * b)), .int .i64 (err1 (a * b))]) ∧ W = w' := fun W => mul_any a b W ha hb
  have M2 : ∀ W, Calls Tryd.prog 42 #[.int .i64 a, .int .i64 b] W fun e w' => e = .returned (.tuple #[.int .i64 (val1 (a * b)), .int .i64 (err1 (a * b))]) ∧ W = w' := fun W => rmul_any a b W ha hb
  have D1 : ∀ W, Calls Tryd.prog 37 #[.int .i64 a, .int .i64 b] W fun e w' => e = .returned (.tuple #[.int .i64 (divV a b), .int .i64 (divE a b)]) ∧ W = w' := fun W => div_any a b W ha
  have D2 : ∀ W, Calls Tryd.prog 43 #[.int .i64 a, .int .i64 b] W fun e w' => e = .returned (.tuple #[.int .i64 (divV a b), .int .i64 (divE a b)]) ∧ W = w' := fun W => rdiv_any a b W ha
  have R1 : ∀ W, Calls Tryd.prog 38 #[.int .i64 a, .int .i64 b] W fun e w' => e = .returned (.tuple #[.int .i64 (modV a b), .int .i64 (modE b)]) ∧ W = w' := fun W => mod_any a b W
  have R2 : ∀ W, Calls Tryd.prog 44 #[.int .i64 a, .int .i64 b] W fun e w' => e = .returned (.tuple #[.int .i64 (modV a b), .int .i64 (modE b)]) ∧ W = w' := fun W => rmod_any a b W
  have hd : divE a b = 18 ∨ divE a b = 17 ∨ (divE a b = 0 ∧ modE b = 0 ∧ wrap64 (wrap64 (divV a b * b) + modV a b) = a) := by
    by_cases b0 : b = 0
    · left; simp [divE, b0]
    · right
      cases hf : fits (a.tdiv b)
      · left; simp [divE, b0, err1_no hf]
      · right
        refine ⟨by simp [divE, b0, err1_yes hf], by simp [modE, b0], ?_⟩
        have h1 := Int.mul_tdiv_add_tmod a b
        have h2 := bd ha
        simp only [divV, modV, b0, if_false, val1_yes hf]
        rw [Int.mul_comm b] at h1
        generalize a.tdiv b * b = x at *
        generalize a.tmod b = y at *
        unfold wrap64; omega
  clear ha hb
  generalize val1 (a * b) = p at *
  generalize err1 (a * b) = q at *
  generalize divV a b = z at *
  generalize divE a b = g at *
  generalize modV a b = u at *
  generalize modE b = i at *
  rcases hd with rfl | rfl | ⟨rfl, rfl, hd⟩
  · go_enter Tryd.func11, Tryd.ntmps11
    go_wp2_with (first | (go_at_call 39; (with_reducible refine (M1 _).mono ?_); rintro e w' ⟨rfl, rfl⟩) | (go_at_call 42; (with_reducible refine (M2 _).mono ?_); rintro e w' ⟨rfl, rfl⟩) | (go_at_call 37; (with_reducible refine (D1 _).mono ?_); rintro e w' ⟨rfl, rfl⟩) | (go_at_call 43; (with_reducible refine (D2 _).mono ?_); rintro e w' ⟨rfl, rfl⟩) | (go_at_call 38; (with_reducible refine (R1 _).mono ?_); rintro e w' ⟨rfl, rfl⟩) | (go_at_call 44; (with_reducible refine (R2 _).mono ?_); rintro e w' ⟨rfl, rfl⟩) | (go_at_call 18; (with_reducible refine (same_any _ _ _).mono ?_); rintro e w' ⟨rfl, rfl⟩) | (go_at_call 19; (with_reducible refine K.out.mono ?_); rintro e w' ⟨rfl, hb⟩))
    go_ret
    exact ⟨rfl, hb⟩
  · go_enter Tryd.func11, Tryd.ntmps11
    go_wp2_with (first | (go_at_call 39; (with_reducible refine (M1 _).mono ?_); rintro e w' ⟨rfl, rfl⟩) | (go_at_call 42; (with_reducible refine (M2 _).mono ?_); rintro e w' ⟨rfl, rfl⟩) | (go_at_call 37; (with_reducible refine (D1 _).mono ?_); rintro e w' ⟨rfl, rfl⟩) | (go_at_call 43; (with_reducible refine (D2 _).mono ?_); rintro e w' ⟨rfl, rfl⟩) | (go_at_call 38; (with_reducible refine (R1 _).mono ?_); rintro e w' ⟨rfl, rfl⟩) | (go_at_call 44; (with_reducible refine (R2 _).mono ?_); rintro e w' ⟨rfl, rfl⟩) | (go_at_call 18; (with_reducible refine (same_any _ _ _).mono ?_); rintro e w' ⟨rfl, rfl⟩) | (go_at_call 19; (with_reducible refine K.out.mono ?_); rintro e w' ⟨rfl, hb⟩))
    go_ret
    exact ⟨rfl, hb⟩
  · have gq : (wrap64 (wrap64 (z * b) + u) == a) = true := by rw [hd]; simp
    clear hd
    go_enter Tryd.func11, Tryd.ntmps11
    go_wp2_with (first | (go_at_call 39; (with_reducible refine (M1 _).mono ?_); rintro e w' ⟨rfl, rfl⟩) | (go_at_call 42; (with_reducible refine (M2 _).mono ?_); rintro e w' ⟨rfl, rfl⟩) | (go_at_call 37; (with_reducible refine (D1 _).mono ?_); rintro e w' ⟨rfl, rfl⟩) | (go_at_call 43; (with_reducible refine (D2 _).mono ?_); rintro e w' ⟨rfl, rfl⟩) | (go_at_call 38; (with_reducible refine (R1 _).mono ?_); rintro e w' ⟨rfl, rfl⟩) | (go_at_call 44; (with_reducible refine (R2 _).mono ?_); rintro e w' ⟨rfl, rfl⟩) | (go_at_call 18; (with_reducible refine (same_any _ _ _).mono ?_); rintro e w' ⟨rfl, rfl⟩) | (go_at_call 19; (with_reducible refine K.out.mono ?_); rintro e w' ⟨rfl, hb⟩))
    go_ret
    exact ⟨rfl, hb⟩
end Go.Proofs.YtcklidpfmpanhaaDoor
