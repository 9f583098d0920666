
/- ElemChanges is true of every input: the walk, where the listed variables stand. -/
import Derived.Test.YtbghbfgbpdppeaaDoorElemH
import Derived.Test.YtbghbfgbpdppeaaDoorElemI
namespace Go.Proofs.YtbghbfgbpdppeaaDoor
open Go.ChangeShapes Go.WideShapes Go.ChangeAt Go.RowKit
set_option linter.unusedVariables false

set_option maxRecDepth 100000 in
theorem changes_1 (x : Nat) (z : Int) (hx : x < 4294967296) (w : World) (hT : TzT w) :
    Calls Tryd.prog 6 #[.int .u32 x, .int .i64 1, .int .i64 z] w fun e w' => e = .returned (.bool true) ∧ Below w.heap.size w w' := by
  have K := Lib.hid (fun W (hb : Below w.heap.size w W) => awake_elem W (hT.below hb))
  have U := fun W => with_1 x z W hx
  have R := fun W => word_any (z % 65536).toNat (wS x) (wT x) (wV x) W (by first | exact wP_lt hx | omega) (by first | exact wS_lt x | omega) (by first | exact wT_lt x | omega)
  have em : bits .and .i64 z 65535 = (((z % 65536).toNat : Nat) : Int) := by
    have h := i64_mask z 16 (by decide)
    rw [show ((2 ^ 16 - 1 : Nat) : Int) = 65535 from rfl, show ((2 ^ 16 : Nat) : Int) = 65536 from rfl] at h
    rw [h]
    omega
  generalize (z % 65536).toNat = zn at *
  generalize ((mkW zn (wS x) (wT x) (wV x) : Nat) : Int) = m at *
  have O := fun W => of_any x W hx
  generalize (zn : Int) = zn at *
  generalize (wP x : Int) = p at *
  generalize (wS x : Int) = s at *
  generalize (wT x : Int) = t at *
  generalize wV x = v at *
  generalize (x : Int) = y at *
  replace U := Lib.hid U
  replace R := Lib.hid R
  replace O := Lib.hid O
  clear hx hT
  go_enter Tryd.func6, Tryd.ntmps6
  go_wp2_with (first
    | (go_at_call 19; (with_reducible refine (U.out _).mono ?_); rintro e w' ⟨rfl, rfl⟩)
    | (go_at_call 20; (with_reducible refine (O.out _).mono ?_); rintro e w1 ⟨rfl, hb1⟩)
    | (go_at_call 21; (with_reducible refine (R.out _).mono ?_); rintro e w2 ⟨rfl, hb2⟩; have hz1 := hb1.size; have hb5 := (hb1.alloc hz1 _).trans (hb2.mono (by simp; omega)))
    | (go_at_call 22; (with_reducible refine (K.out _ hb5).mono ?_); rintro e w3 ⟨rfl, hb3⟩))
  go_ret
  exact ⟨rfl, hb5.trans (hb3.mono hb5.size)⟩

set_option maxRecDepth 100000 in
theorem changes_2 (x : Nat) (z : Int) (hx : x < 4294967296) (w : World) (hT : TzT w) :
    Calls Tryd.prog 6 #[.int .u32 x, .int .i64 2, .int .i64 z] w fun e w' => e = .returned (.bool true) ∧ Below w.heap.size w w' := by
  have K := Lib.hid (fun W (hb : Below w.heap.size w W) => awake_elem W (hT.below hb))
  have U := fun W => with_2 x z W hx
  have R := fun W => word_any (wP x) (z % 256).toNat (wT x) (wV x) W (by first | exact wP_lt hx | omega) (by first | exact wS_lt x | omega) (by first | exact wT_lt x | omega)
  have em : bits .and .i64 z 255 = (((z % 256).toNat : Nat) : Int) := by
    have h := i64_mask z 8 (by decide)
    rw [show ((2 ^ 8 - 1 : Nat) : Int) = 255 from rfl, show ((2 ^ 8 : Nat) : Int) = 256 from rfl] at h
    rw [h]
    omega
  generalize (z % 256).toNat = zn at *
  generalize ((mkW (wP x) zn (wT x) (wV x) : Nat) : Int) = m at *
  have O := fun W => of_any x W hx
  generalize (zn : Int) = zn at *
  generalize (wP x : Int) = p at *
  generalize (wS x : Int) = s at *
  generalize (wT x : Int) = t at *
  generalize wV x = v at *
  generalize (x : Int) = y at *
  replace U := Lib.hid U
  replace R := Lib.hid R
  replace O := Lib.hid O
  clear hx hT
  go_enter Tryd.func6, Tryd.ntmps6
  go_wp2_with (first
    | (go_at_call 19; (with_reducible refine (U.out _).mono ?_); rintro e w' ⟨rfl, rfl⟩)
    | (go_at_call 20; (with_reducible refine (O.out _).mono ?_); rintro e w1 ⟨rfl, hb1⟩)
    | (go_at_call 21; (with_reducible refine (R.out _).mono ?_); rintro e w2 ⟨rfl, hb2⟩; have hz1 := hb1.size; have hb5 := (hb1.alloc hz1 _).trans (hb2.mono (by simp; omega)))
    | (go_at_call 22; (with_reducible refine (K.out _ hb5).mono ?_); rintro e w3 ⟨rfl, hb3⟩))
  go_ret
  exact ⟨rfl, hb5.trans (hb3.mono hb5.size)⟩

set_option maxRecDepth 100000 in
theorem changes_3 (x : Nat) (z : Int) (hx : x < 4294967296) (w : World) (hT : TzT w) :
    Calls Tryd.prog 6 #[.int .u32 x, .int .i64 3, .int .i64 z] w fun e w' => e = .returned (.bool true) ∧ Below w.heap.size w w' := by
  have K := Lib.hid (fun W (hb : Below w.heap.size w W) => awake_elem W (hT.below hb))
  have U := fun W => with_3 x z W hx
  have R := fun W => word_any (wP x) (wS x) (z % 128).toNat (wV x) W (by first | exact wP_lt hx | omega) (by first | exact wS_lt x | omega) (by first | exact wT_lt x | omega)
  have em : bits .and .i64 z 127 = (((z % 128).toNat : Nat) : Int) := by
    have h := i64_mask z 7 (by decide)
    rw [show ((2 ^ 7 - 1 : Nat) : Int) = 127 from rfl, show ((2 ^ 7 : Nat) : Int) = 128 from rfl] at h
    rw [h]
    omega
  generalize (z % 128).toNat = zn at *
  generalize ((mkW (wP x) (wS x) zn (wV x) : Nat) : Int) = m at *
  have O := fun W => of_any x W hx
  generalize (zn : Int) = zn at *
  generalize (wP x : Int) = p at *
  generalize (wS x : Int) = s at *
  generalize (wT x : Int) = t at *
  generalize wV x = v at *
  generalize (x : Int) = y at *
  replace U := Lib.hid U
  replace R := Lib.hid R
  replace O := Lib.hid O
  clear hx hT
  go_enter Tryd.func6, Tryd.ntmps6
  go_wp2_with (first
    | (go_at_call 19; (with_reducible refine (U.out _).mono ?_); rintro e w' ⟨rfl, rfl⟩)
    | (go_at_call 20; (with_reducible refine (O.out _).mono ?_); rintro e w1 ⟨rfl, hb1⟩)
    | (go_at_call 21; (with_reducible refine (R.out _).mono ?_); rintro e w2 ⟨rfl, hb2⟩; have hz1 := hb1.size; have hb5 := (hb1.alloc hz1 _).trans (hb2.mono (by simp; omega)))
    | (go_at_call 22; (with_reducible refine (K.out _ hb5).mono ?_); rintro e w3 ⟨rfl, hb3⟩))
  go_ret
  exact ⟨rfl, hb5.trans (hb3.mono hb5.size)⟩

set_option maxRecDepth 100000 in
theorem changes_0 (x : Nat) (l : Int) (h1 : (l == 1) = false) (h2 : (l == 2) = false) (h3 : (l == 3) = false) (z : Int) (hx : x < 4294967296) (w : World) (hT : TzT w) :
    Calls Tryd.prog 6 #[.int .u32 x, .int .i64 l, .int .i64 z] w fun e w' => e = .returned (.bool true) ∧ Below w.heap.size w w' := by
  have K := Lib.hid (fun W (hb : Below w.heap.size w W) => awake_elem W (hT.below hb))
  have U := fun W => with_0 x l z W hx h1 h2 h3
  have R := fun W => word_any (wP x) (wS x) (wT x) (wV x) W (wP_lt hx) (wS_lt x) (wT_lt x)
  rw [mkW_of] at R
  have O := fun W => of_any x W hx
  generalize (wP x : Int) = p at *
  generalize (wS x : Int) = s at *
  generalize (wT x : Int) = t at *
  generalize wV x = v at *
  generalize (x : Int) = y at *
  replace U := Lib.hid U
  replace R := Lib.hid R
  replace O := Lib.hid O
  clear hx hT
  go_enter Tryd.func6, Tryd.ntmps6
  go_wp2_with (first
    | (go_at_call 19; (with_reducible refine (U.out _).mono ?_); rintro e w' ⟨rfl, rfl⟩)
    | (go_at_call 20; (with_reducible refine (O.out _).mono ?_); rintro e w1 ⟨rfl, hb1⟩)
    | (go_at_call 21; (with_reducible refine (R.out _).mono ?_); rintro e w2 ⟨rfl, hb2⟩; have hz1 := hb1.size; have hb5 := (hb1.alloc hz1 _).trans (hb2.mono (by simp; omega)))
    | (go_at_call 22; (with_reducible refine (K.out _ hb5).mono ?_); rintro e w3 ⟨rfl, hb3⟩))
  go_ret
  exact ⟨rfl, hb5.trans (hb3.mono hb5.size)⟩

theorem nat_of_u32 {a : Int} (h : (Lit.int .u32 a).wf = true) : ∃ x : Nat, a = (x : Int) ∧ x < 4294967296 := by
  simp [Lit.wf, IntKind.min, IntKind.max, IntKind.signed, IntKind.bits] at h
  exact ⟨a.toNat, by omega, by omega⟩
theorem walk_ElemChanges (a l z : Int) (wa : (Lit.int .u32 a).wf = true) (wl : (Lit.int .i64 l).wf = true) (wz : (Lit.int .i64 z).wf = true) (w : World) (hT : TzT w) :
    Calls Tryd.prog 6 #[.int .u32 a, .int .i64 l, .int .i64 z] w fun e w' => e = .returned (.bool true) ∧ Below w.heap.size w w' := by
  obtain ⟨x, rfl, hx⟩ := nat_of_u32 wa
  by_cases h1 : l = 1
  · subst h1; exact changes_1 x z hx w hT
  by_cases h2 : l = 2
  · subst h2; exact changes_2 x z hx w hT
  by_cases h3 : l = 3
  · subst h3; exact changes_3 x z hx w hT
  exact changes_0 x l (by simpa using h1) (by simpa using h2) (by simpa using h3) z hx w hT
end Go.Proofs.YtbghbfgbpdppeaaDoor
