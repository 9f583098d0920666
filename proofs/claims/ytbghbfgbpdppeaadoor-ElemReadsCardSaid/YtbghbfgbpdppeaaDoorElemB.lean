
/- Changing one weight; the document's element of a word, its word, whether it is sound; the program's: what each function returns. -/
import Derived.Test.YtbghbfgbpdppeaaDoorElemA
namespace Go.Proofs.YtbghbfgbpdppeaaDoor
open Go.ChangeShapes Go.WideShapes Go.ChangeAt Go.RowKit
set_option linter.unusedVariables false

theorem with_1 (x : Nat) (v : Int) (w : World) (hx : x < 4294967296) : Calls Tryd.prog 19 #[.int .u32 x, .int .i64 1, .int .i64 v] w fun e w' => e = .returned (.int .u32 (mkW (v % 65536).toNat (wS x) (wT x) (wV x) : Nat)) ∧ w = w' := by
  have hxi : (x : Int) < 4294967296 := by omega
  have hv : IntKind.u64.wrap v = ((v % 18446744073709551616).toNat : Int) := by rw [u64w]; omega
  have C := fun W => set_any x (v % 18446744073709551616).toNat 16 16 W (by omega)
  have es : setV x 16 16 (v % 18446744073709551616).toNat = mkW (v % 65536).toNat (wS x) (wT x) (wV x) := by
    have e1 : setV x 16 16 (v % 18446744073709551616).toNat = setC x 16 16 (v % 18446744073709551616).toNat := rfl
    rw [e1, set16 hx]
    congr 1
    omega
  rw [es, ← hv] at C
  have hm : mkW (v % 65536).toNat (wS x) (wT x) (wV x) < 4294967296 := mkW_lt (by have := wP_lt hx; omega) (by have := wS_lt x; omega) (by have := wT_lt x; omega)
  generalize mkW (v % 65536).toNat (wS x) (wT x) (wV x) = r at *
  have hmi : (r : Int) < 4294967296 := by omega
  replace C := Lib.hid C
  clear es hv
  go_enter Tryd.func19, Tryd.ntmps19
  go_wp2_with (first | (go_at_call 46; (with_reducible refine (field_1 _).mono ?_); rintro e w' ⟨rfl, rfl⟩) | (go_at_call 47; (with_reducible refine (C.out _).mono ?_); rintro e w' ⟨rfl, rfl⟩))
  go_ret
  exact ⟨rfl, rfl⟩

theorem with_2 (x : Nat) (v : Int) (w : World) (hx : x < 4294967296) : Calls Tryd.prog 19 #[.int .u32 x, .int .i64 2, .int .i64 v] w fun e w' => e = .returned (.int .u32 (mkW (wP x) (v % 256).toNat (wT x) (wV x) : Nat)) ∧ w = w' := by
  have hxi : (x : Int) < 4294967296 := by omega
  have hv : IntKind.u64.wrap v = ((v % 18446744073709551616).toNat : Int) := by rw [u64w]; omega
  have C := fun W => set_any x (v % 18446744073709551616).toNat 8 8 W (by omega)
  have es : setV x 8 8 (v % 18446744073709551616).toNat = mkW (wP x) (v % 256).toNat (wT x) (wV x) := by
    have e1 : setV x 8 8 (v % 18446744073709551616).toNat = setC x 8 8 (v % 18446744073709551616).toNat := rfl
    rw [e1, set8 hx]
    congr 1
    omega
  rw [es, ← hv] at C
  have hm : mkW (wP x) (v % 256).toNat (wT x) (wV x) < 4294967296 := mkW_lt (by have := wP_lt hx; omega) (by have := wS_lt x; omega) (by have := wT_lt x; omega)
  generalize mkW (wP x) (v % 256).toNat (wT x) (wV x) = r at *
  have hmi : (r : Int) < 4294967296 := by omega
  replace C := Lib.hid C
  clear es hv
  go_enter Tryd.func19, Tryd.ntmps19
  go_wp2_with (first | (go_at_call 46; (with_reducible refine (field_2 _).mono ?_); rintro e w' ⟨rfl, rfl⟩) | (go_at_call 47; (with_reducible refine (C.out _).mono ?_); rintro e w' ⟨rfl, rfl⟩))
  go_ret
  exact ⟨rfl, rfl⟩

theorem with_3 (x : Nat) (v : Int) (w : World) (hx : x < 4294967296) : Calls Tryd.prog 19 #[.int .u32 x, .int .i64 3, .int .i64 v] w fun e w' => e = .returned (.int .u32 (mkW (wP x) (wS x) (v % 128).toNat (wV x) : Nat)) ∧ w = w' := by
  have hxi : (x : Int) < 4294967296 := by omega
  have hv : IntKind.u64.wrap v = ((v % 18446744073709551616).toNat : Int) := by rw [u64w]; omega
  have C := fun W => set_any x (v % 18446744073709551616).toNat 1 7 W (by omega)
  have es : setV x 1 7 (v % 18446744073709551616).toNat = mkW (wP x) (wS x) (v % 128).toNat (wV x) := by
    have e1 : setV x 1 7 (v % 18446744073709551616).toNat = setC x 1 7 (v % 18446744073709551616).toNat := rfl
    rw [e1, set7 hx]
    congr 1
    omega
  rw [es, ← hv] at C
  have hm : mkW (wP x) (wS x) (v % 128).toNat (wV x) < 4294967296 := mkW_lt (by have := wP_lt hx; omega) (by have := wS_lt x; omega) (by have := wT_lt x; omega)
  generalize mkW (wP x) (wS x) (v % 128).toNat (wV x) = r at *
  have hmi : (r : Int) < 4294967296 := by omega
  replace C := Lib.hid C
  clear es hv
  go_enter Tryd.func19, Tryd.ntmps19
  go_wp2_with (first | (go_at_call 46; (with_reducible refine (field_3 _).mono ?_); rintro e w' ⟨rfl, rfl⟩) | (go_at_call 47; (with_reducible refine (C.out _).mono ?_); rintro e w' ⟨rfl, rfl⟩))
  go_ret
  exact ⟨rfl, rfl⟩

theorem with_0 (x : Nat) (l v : Int) (w : World) (hx : x < 4294967296) (h1 : (l == 1) = false) (h2 : (l == 2) = false) (h3 : (l == 3) = false) : Calls Tryd.prog 19 #[.int .u32 x, .int .i64 l, .int .i64 v] w fun e w' => e = .returned (.int .u32 x) ∧ w = w' := by
  have hxi : (x : Int) < 4294967296 := by omega
  have hv : IntKind.u64.wrap v = ((v % 18446744073709551616).toNat : Int) := by rw [u64w]; omega
  have C := fun W => set_any x (v % 18446744073709551616).toNat 0 0 W (by omega)
  have es : setV x 0 0 (v % 18446744073709551616).toNat = x := by unfold setV; rw [if_neg (by omega)]
  rw [es, ← hv] at C
  have F := Lib.hid (fun W => field_0 l h1 h2 h3 W)
  replace C := Lib.hid C
  clear es hv
  go_enter Tryd.func19, Tryd.ntmps19
  go_wp2_with (first | (go_at_call 46; (with_reducible refine (F.out _).mono ?_); rintro e w' ⟨rfl, rfl⟩) | (go_at_call 47; (with_reducible refine (C.out _).mono ?_); rintro e w' ⟨rfl, rfl⟩))
  go_ret
  exact ⟨rfl, rfl⟩

theorem and_u32 (x k : Nat) (hx : x < 4294967296) (hk : 2 ^ k - 1 < 4294967296) : bits .and .u32 (x : Int) ((2 ^ k - 1 : Nat) : Int) = ((x % 2 ^ k : Nat) : Int) := by
  rw [u32_and_nat x _ hx hk, and_mask]
/-- the document's element of a word -/
abbrev ev (p s t : Int) (v : Bool) : Value := .agg #[.int .i64 p, .int .i64 s, .int .i64 t, .bool v]
theorem of_any (x : Nat) (w : World) (hx : x < 4294967296) : Calls Tryd.prog 20 #[.int .u32 x] w fun e w' => e = .returned (ev (wP x) (wS x) (wT x) (wV x)) ∧ Below w.heap.size w w' := by
  have hxi : (x : Int) < 4294967296 := by omega
  have e1 : (x : Int) / 65536 = (wP x : Nat) := by unfold wP; omega
  have e2 : bits .and .u32 ((x : Int) / 256) 255 = (wS x : Nat) := by
    have := and_u32 (x / 256) 8 (by omega) (by decide)
    rw [show ((x / 256 : Nat) : Int) = (x : Int) / 256 by omega] at this
    rw [show ((2 ^ 8 - 1 : Nat) : Int) = 255 from rfl] at this
    rw [this]; rfl
  have e3 : bits .and .u32 ((x : Int) / 2) 127 = (wT x : Nat) := by
    have := and_u32 (x / 2) 7 (by omega) (by decide)
    rw [show ((x / 2 : Nat) : Int) = (x : Int) / 2 by omega] at this
    rw [show ((2 ^ 7 - 1 : Nat) : Int) = 127 from rfl] at this
    rw [this]; rfl
  have e4 : (bits .and .u32 (x : Int) 1 == 1) = wV x := by
    rw [and1_u32 x hx]
    unfold wV
    rw [Bool.eq_iff_iff, beq_iff_eq, decide_eq_true_eq]
    omega
  have hP := wP_lt hx
  have hS := wS_lt x
  have hT := wT_lt x
  generalize wP x = p at *
  generalize wS x = s at *
  generalize wT x = t at *
  generalize wV x = v at *
  go_enter Tryd.func20, Tryd.ntmps20
  go_wp2
  exact bodyPost_ret (v := ev p s t v) (by simp [results, Tryd.results20, go_sem]) rfl ⟨rfl, (Below.refl _ _).alloc (Nat.le_refl _) _⟩
end Go.Proofs.YtbghbfgbpdppeaaDoor
