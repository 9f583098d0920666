
/- CastWidths is true of every input: the walk, where the listed variables stand. -/
import Derived.Test.YtbghbfgbpdppeaaGreatDoorCastH
namespace Go.Proofs.YtbghbfgbpdppeaaGreatDoor
open Go.ChangeShapes Go.WideShapes Go.ChangeAt Go.RowKit
set_option linter.unusedVariables false

theorem u64_low (n : Int) : bits .and .u64 (IntKind.u64.wrap n) 255 = n % 256 := by
  show IntKind.u64.wrap ((BitVec.ofInt 64 (IntKind.u64.wrap n) &&& BitVec.ofInt 64 255).toNat : Int) = _
  have e : BitVec.ofInt 64 255 = BitVec.ofNat 64 255 := rfl
  rw [e, BitVec.toNat_and, BitVec.toNat_ofInt, BitVec.toNat_ofNat, u64w, u64w]
  have h : ∀ x : Nat, x &&& 255 = x % 256 := fun x => Nat.and_two_pow_sub_one_eq_mod x 8
  rw [show (255 % 2 ^ 64 : Nat) = 255 from rfl, h]
  omega

set_option maxHeartbeats 800000 in
set_option maxRecDepth 100000 in
theorem widths_ax (n : Int) (hn0 : -9223372036854775808 ≤ n) (hn1 : n ≤ 9223372036854775807) (k0 : 0 ≤ n) (k1 : n ≤ 255) (w : World) (hT : TabsX w) :
    Calls Tryz.prog 6 #[.int .i64 n] w fun e w' => e = .returned (.bool true) ∧ Below w.heap.size w w' := by
  have K := Lib.hid (fun W (hb : Below w.heap.size w W) => awake_any W (hT.below hb))
  have B1 := fun W => call_byte n 0 W
  have B2 := fun W => call_word n 0 W
  have e1 : wrapV n 1 false = n % 256 := by simp [wrapV]
  have e2 : wrapV n 4 true = (n + 2147483648) % 4294967296 - 2147483648 := by simp [wrapV]
  have B3 := fun W => call_byte ((n + 2147483648) % 4294967296 - 2147483648) 0 W
  have e3 : wrapV ((n + 2147483648) % 4294967296 - 2147483648) 1 false = n % 256 := by simp [wrapV]; omega
  rw [e1] at B1
  rw [e2] at B2
  rw [e3] at B3
  obtain ⟨B, hB⟩ : ∃ B, B = n % 256 := ⟨_, rfl⟩
  obtain ⟨V, hV⟩ : ∃ V, V = (n + 2147483648) % 4294967296 - 2147483648 := ⟨_, rfl⟩
  rw [← hB] at B1 B3
  rw [← hV] at B2 B3
  have b0 : 0 ≤ B := by omega
  have b1 : B ≤ 255 := by omega
  have v0 : -2147483648 ≤ V := by omega
  have v1 : V < 2147483648 := by omega
  have g1 : (B != n) = false := by rw [bne_eq_false_iff_eq]; omega
  have g2 : (V != n) = false := by rw [bne_eq_false_iff_eq]; omega
  have f1 : (Int.tmod (wrap64 (n - V)) 4294967296 == 0) = true := by
    rw [beq_iff_eq]
    have h : ∃ t : Int, wrap64 (n - V) = 4294967296 * t := ⟨wrap64 (n - V) / 4294967296, by unfold wrap64; omega⟩
    obtain ⟨t, ht⟩ := h
    rw [ht]
    exact Int.mul_tmod_right _ _
  have f3 : (Int.tmod (n - V) 4294967296 == 0) = true := by
    rw [beq_iff_eq]
    have h : ∃ t : Int, n - V = 4294967296 * t := ⟨(n - V) / 4294967296, by omega⟩
    obtain ⟨t, ht⟩ := h
    rw [ht]
    exact Int.mul_tmod_right _ _
  have f4 : (bits .and .u64 n 255 == B) = true := by
    have hw : IntKind.u64.wrap n = n := by rw [u64w]; omega
    have := u64_low n
    rw [hw] at this
    rw [this, hB]; simp
  have f2 : (bits .and .u64 (IntKind.u64.wrap n) 255 == B) = true := by rw [u64_low, hB]; simp
  replace B1 := Lib.hid B1
  replace B2 := Lib.hid B2
  replace B3 := Lib.hid B3
  clear e1 e2 e3 hB hV hT
  go_enter Tryz.func6, Tryz.ntmps6
  go_wp2_with (first
    | (go_at_call 15; (with_reducible refine (rint_any n w).mono ?_); rintro e w1 ⟨rfl, hb1⟩)
    | (go_at_call 16; (with_reducible refine (B1.out w1).mono ?_); rintro e w2 ⟨rfl, hb2⟩; have hb3 := btr hb1 hb2)
    | (go_at_call 15; (with_reducible refine (rint_any n _).mono ?_); rintro e w4 ⟨rfl, hb4⟩)
    | (go_at_call 16; (with_reducible refine (B2.out w4).mono ?_); rintro e w5 ⟨rfl, hb5⟩; have hb6 := btr hb4 hb5; have p1 := (hb6.cell (p := ⟨w2.heap.size, 1, none⟩) (by simp)).trans (by simp [go_sem]; rfl); have z1 := (show w2.heap.size < w5.heap.size by have := hb6.size; simp at this; omega))
    | (go_at_call 16; (with_reducible refine (B3.out _).mono ?_); rintro e w7 ⟨rfl, hb7⟩; have p2 := (hb7.cell (p := ⟨w2.heap.size, 1, none⟩) (by simp; omega)).trans ((World.cell?_alloc_old _ _ _ (by simp only; omega)).trans p1); have p3 := (hb7.cell (p := ⟨w5.heap.size, 1, none⟩) (by simp)).trans (by simp [go_sem]; rfl); have z2 := (show w5.heap.size < w7.heap.size by have := hb7.size; simp at this; omega); have z3 := (show w2.heap.size < w7.heap.size by omega); have hb8 := btr (btr hb3 (bafter hb6)) (bafter hb7))
    | (go_at_call 10; (with_reducible refine (K.out _ (btr hb8 (balloc _ _))).mono ?_); rintro e w9 ⟨rfl, hb9⟩))
  go_ret
  exact ⟨rfl, btr (btr hb8 (balloc _ _)) hb9⟩

set_option maxHeartbeats 800000 in
set_option maxRecDepth 100000 in
theorem widths_bn (n : Int) (hn0 : -9223372036854775808 ≤ n) (hn1 : n ≤ 9223372036854775807) (k0 : -2147483648 ≤ n) (k1 : n < 0) (w : World) (hT : TabsX w) :
    Calls Tryz.prog 6 #[.int .i64 n] w fun e w' => e = .returned (.bool true) ∧ Below w.heap.size w w' := by
  have K := Lib.hid (fun W (hb : Below w.heap.size w W) => awake_any W (hT.below hb))
  have B1 := fun W => call_byte n 0 W
  have B2 := fun W => call_word n 0 W
  have e1 : wrapV n 1 false = n % 256 := by simp [wrapV]
  have e2 : wrapV n 4 true = (n + 2147483648) % 4294967296 - 2147483648 := by simp [wrapV]
  have B3 := fun W => call_byte ((n + 2147483648) % 4294967296 - 2147483648) 0 W
  have e3 : wrapV ((n + 2147483648) % 4294967296 - 2147483648) 1 false = n % 256 := by simp [wrapV]; omega
  rw [e1] at B1
  rw [e2] at B2
  rw [e3] at B3
  obtain ⟨B, hB⟩ : ∃ B, B = n % 256 := ⟨_, rfl⟩
  obtain ⟨V, hV⟩ : ∃ V, V = (n + 2147483648) % 4294967296 - 2147483648 := ⟨_, rfl⟩
  rw [← hB] at B1 B3
  rw [← hV] at B2 B3
  have b0 : 0 ≤ B := by omega
  have b1 : B ≤ 255 := by omega
  have v0 : -2147483648 ≤ V := by omega
  have v1 : V < 2147483648 := by omega
  have g2 : (V != n) = false := by rw [bne_eq_false_iff_eq]; omega
  have f1 : (Int.tmod (wrap64 (n - V)) 4294967296 == 0) = true := by
    rw [beq_iff_eq]
    have h : ∃ t : Int, wrap64 (n - V) = 4294967296 * t := ⟨wrap64 (n - V) / 4294967296, by unfold wrap64; omega⟩
    obtain ⟨t, ht⟩ := h
    rw [ht]
    exact Int.mul_tmod_right _ _
  have f3 : (Int.tmod (n - V) 4294967296 == 0) = true := by
    rw [beq_iff_eq]
    have h : ∃ t : Int, n - V = 4294967296 * t := ⟨(n - V) / 4294967296, by omega⟩
    obtain ⟨t, ht⟩ := h
    rw [ht]
    exact Int.mul_tmod_right _ _
  have f2 : (bits .and .u64 (IntKind.u64.wrap n) 255 == B) = true := by rw [u64_low, hB]; simp
  replace B1 := Lib.hid B1
  replace B2 := Lib.hid B2
  replace B3 := Lib.hid B3
  clear e1 e2 e3 hB hV hT
  go_enter Tryz.func6, Tryz.ntmps6
  go_wp2_with (first
    | (go_at_call 15; (with_reducible refine (rint_any n w).mono ?_); rintro e w1 ⟨rfl, hb1⟩)
    | (go_at_call 16; (with_reducible refine (B1.out w1).mono ?_); rintro e w2 ⟨rfl, hb2⟩; have hb3 := btr hb1 hb2)
    | (go_at_call 15; (with_reducible refine (rint_any n _).mono ?_); rintro e w4 ⟨rfl, hb4⟩)
    | (go_at_call 16; (with_reducible refine (B2.out w4).mono ?_); rintro e w5 ⟨rfl, hb5⟩; have hb6 := btr hb4 hb5; have p1 := (hb6.cell (p := ⟨w2.heap.size, 1, none⟩) (by simp)).trans (by simp [go_sem]; rfl); have z1 := (show w2.heap.size < w5.heap.size by have := hb6.size; simp at this; omega))
    | (go_at_call 16; (with_reducible refine (B3.out _).mono ?_); rintro e w7 ⟨rfl, hb7⟩; have p2 := (hb7.cell (p := ⟨w2.heap.size, 1, none⟩) (by simp; omega)).trans ((World.cell?_alloc_old _ _ _ (by simp only; omega)).trans p1); have p3 := (hb7.cell (p := ⟨w5.heap.size, 1, none⟩) (by simp)).trans (by simp [go_sem]; rfl); have z2 := (show w5.heap.size < w7.heap.size by have := hb7.size; simp at this; omega); have z3 := (show w2.heap.size < w7.heap.size by omega); have hb8 := btr (btr hb3 (bafter hb6)) (bafter hb7))
    | (go_at_call 10; (with_reducible refine (K.out _ (btr hb8 (balloc _ _))).mono ?_); rintro e w9 ⟨rfl, hb9⟩))
  go_ret
  exact ⟨rfl, btr (btr hb8 (balloc _ _)) hb9⟩

set_option maxHeartbeats 800000 in
set_option maxRecDepth 100000 in
theorem widths_bp (n : Int) (hn0 : -9223372036854775808 ≤ n) (hn1 : n ≤ 9223372036854775807) (k0 : 255 < n) (k1 : n < 2147483648) (w : World) (hT : TabsX w) :
    Calls Tryz.prog 6 #[.int .i64 n] w fun e w' => e = .returned (.bool true) ∧ Below w.heap.size w w' := by
  have K := Lib.hid (fun W (hb : Below w.heap.size w W) => awake_any W (hT.below hb))
  have B1 := fun W => call_byte n 0 W
  have B2 := fun W => call_word n 0 W
  have e1 : wrapV n 1 false = n % 256 := by simp [wrapV]
  have e2 : wrapV n 4 true = (n + 2147483648) % 4294967296 - 2147483648 := by simp [wrapV]
  have B3 := fun W => call_byte ((n + 2147483648) % 4294967296 - 2147483648) 0 W
  have e3 : wrapV ((n + 2147483648) % 4294967296 - 2147483648) 1 false = n % 256 := by simp [wrapV]; omega
  rw [e1] at B1
  rw [e2] at B2
  rw [e3] at B3
  obtain ⟨B, hB⟩ : ∃ B, B = n % 256 := ⟨_, rfl⟩
  obtain ⟨V, hV⟩ : ∃ V, V = (n + 2147483648) % 4294967296 - 2147483648 := ⟨_, rfl⟩
  rw [← hB] at B1 B3
  rw [← hV] at B2 B3
  have b0 : 0 ≤ B := by omega
  have b1 : B ≤ 255 := by omega
  have v0 : -2147483648 ≤ V := by omega
  have v1 : V < 2147483648 := by omega
  have g2 : (V != n) = false := by rw [bne_eq_false_iff_eq]; omega
  have f1 : (Int.tmod (wrap64 (n - V)) 4294967296 == 0) = true := by
    rw [beq_iff_eq]
    have h : ∃ t : Int, wrap64 (n - V) = 4294967296 * t := ⟨wrap64 (n - V) / 4294967296, by unfold wrap64; omega⟩
    obtain ⟨t, ht⟩ := h
    rw [ht]
    exact Int.mul_tmod_right _ _
  have f3 : (Int.tmod (n - V) 4294967296 == 0) = true := by
    rw [beq_iff_eq]
    have h : ∃ t : Int, n - V = 4294967296 * t := ⟨(n - V) / 4294967296, by omega⟩
    obtain ⟨t, ht⟩ := h
    rw [ht]
    exact Int.mul_tmod_right _ _
  have f4 : (bits .and .u64 n 255 == B) = true := by
    have hw : IntKind.u64.wrap n = n := by rw [u64w]; omega
    have := u64_low n
    rw [hw] at this
    rw [this, hB]; simp
  have f2 : (bits .and .u64 (IntKind.u64.wrap n) 255 == B) = true := by rw [u64_low, hB]; simp
  replace B1 := Lib.hid B1
  replace B2 := Lib.hid B2
  replace B3 := Lib.hid B3
  clear e1 e2 e3 hB hV hT
  go_enter Tryz.func6, Tryz.ntmps6
  go_wp2_with (first
    | (go_at_call 15; (with_reducible refine (rint_any n w).mono ?_); rintro e w1 ⟨rfl, hb1⟩)
    | (go_at_call 16; (with_reducible refine (B1.out w1).mono ?_); rintro e w2 ⟨rfl, hb2⟩; have hb3 := btr hb1 hb2)
    | (go_at_call 15; (with_reducible refine (rint_any n _).mono ?_); rintro e w4 ⟨rfl, hb4⟩)
    | (go_at_call 16; (with_reducible refine (B2.out w4).mono ?_); rintro e w5 ⟨rfl, hb5⟩; have hb6 := btr hb4 hb5; have p1 := (hb6.cell (p := ⟨w2.heap.size, 1, none⟩) (by simp)).trans (by simp [go_sem]; rfl); have z1 := (show w2.heap.size < w5.heap.size by have := hb6.size; simp at this; omega))
    | (go_at_call 16; (with_reducible refine (B3.out _).mono ?_); rintro e w7 ⟨rfl, hb7⟩; have p2 := (hb7.cell (p := ⟨w2.heap.size, 1, none⟩) (by simp; omega)).trans ((World.cell?_alloc_old _ _ _ (by simp only; omega)).trans p1); have p3 := (hb7.cell (p := ⟨w5.heap.size, 1, none⟩) (by simp)).trans (by simp [go_sem]; rfl); have z2 := (show w5.heap.size < w7.heap.size by have := hb7.size; simp at this; omega); have z3 := (show w2.heap.size < w7.heap.size by omega); have hb8 := btr (btr hb3 (bafter hb6)) (bafter hb7))
    | (go_at_call 10; (with_reducible refine (K.out _ (btr hb8 (balloc _ _))).mono ?_); rintro e w9 ⟨rfl, hb9⟩))
  go_ret
  exact ⟨rfl, btr (btr hb8 (balloc _ _)) hb9⟩

set_option maxHeartbeats 800000 in
set_option maxRecDepth 100000 in
theorem widths_cn (n : Int) (hn0 : -9223372036854775808 ≤ n) (hn1 : n ≤ 9223372036854775807) (k0 : n < -2147483648) (w : World) (hT : TabsX w) :
    Calls Tryz.prog 6 #[.int .i64 n] w fun e w' => e = .returned (.bool true) ∧ Below w.heap.size w w' := by
  have K := Lib.hid (fun W (hb : Below w.heap.size w W) => awake_any W (hT.below hb))
  have B1 := fun W => call_byte n 0 W
  have B2 := fun W => call_word n 0 W
  have e1 : wrapV n 1 false = n % 256 := by simp [wrapV]
  have e2 : wrapV n 4 true = (n + 2147483648) % 4294967296 - 2147483648 := by simp [wrapV]
  have B3 := fun W => call_byte ((n + 2147483648) % 4294967296 - 2147483648) 0 W
  have e3 : wrapV ((n + 2147483648) % 4294967296 - 2147483648) 1 false = n % 256 := by simp [wrapV]; omega
  rw [e1] at B1
  rw [e2] at B2
  rw [e3] at B3
  obtain ⟨B, hB⟩ : ∃ B, B = n % 256 := ⟨_, rfl⟩
  obtain ⟨V, hV⟩ : ∃ V, V = (n + 2147483648) % 4294967296 - 2147483648 := ⟨_, rfl⟩
  rw [← hB] at B1 B3
  rw [← hV] at B2 B3
  have b0 : 0 ≤ B := by omega
  have b1 : B ≤ 255 := by omega
  have v0 : -2147483648 ≤ V := by omega
  have v1 : V < 2147483648 := by omega
  have f1 : (Int.tmod (wrap64 (n - V)) 4294967296 == 0) = true := by
    rw [beq_iff_eq]
    have h : ∃ t : Int, wrap64 (n - V) = 4294967296 * t := ⟨wrap64 (n - V) / 4294967296, by unfold wrap64; omega⟩
    obtain ⟨t, ht⟩ := h
    rw [ht]
    exact Int.mul_tmod_right _ _
  have f3 : (Int.tmod (n - V) 4294967296 == 0) = true := by
    rw [beq_iff_eq]
    have h : ∃ t : Int, n - V = 4294967296 * t := ⟨(n - V) / 4294967296, by omega⟩
    obtain ⟨t, ht⟩ := h
    rw [ht]
    exact Int.mul_tmod_right _ _
  have f2 : (bits .and .u64 (IntKind.u64.wrap n) 255 == B) = true := by rw [u64_low, hB]; simp
  replace B1 := Lib.hid B1
  replace B2 := Lib.hid B2
  replace B3 := Lib.hid B3
  clear e1 e2 e3 hB hV hT
  go_enter Tryz.func6, Tryz.ntmps6
  go_wp2_with (first
    | (go_at_call 15; (with_reducible refine (rint_any n w).mono ?_); rintro e w1 ⟨rfl, hb1⟩)
    | (go_at_call 16; (with_reducible refine (B1.out w1).mono ?_); rintro e w2 ⟨rfl, hb2⟩; have hb3 := btr hb1 hb2)
    | (go_at_call 15; (with_reducible refine (rint_any n _).mono ?_); rintro e w4 ⟨rfl, hb4⟩)
    | (go_at_call 16; (with_reducible refine (B2.out w4).mono ?_); rintro e w5 ⟨rfl, hb5⟩; have hb6 := btr hb4 hb5; have p1 := (hb6.cell (p := ⟨w2.heap.size, 1, none⟩) (by simp)).trans (by simp [go_sem]; rfl); have z1 := (show w2.heap.size < w5.heap.size by have := hb6.size; simp at this; omega))
    | (go_at_call 16; (with_reducible refine (B3.out _).mono ?_); rintro e w7 ⟨rfl, hb7⟩; have p2 := (hb7.cell (p := ⟨w2.heap.size, 1, none⟩) (by simp; omega)).trans ((World.cell?_alloc_old _ _ _ (by simp only; omega)).trans p1); have p3 := (hb7.cell (p := ⟨w5.heap.size, 1, none⟩) (by simp)).trans (by simp [go_sem]; rfl); have z2 := (show w5.heap.size < w7.heap.size by have := hb7.size; simp at this; omega); have z3 := (show w2.heap.size < w7.heap.size by omega); have hb8 := btr (btr hb3 (bafter hb6)) (bafter hb7))
    | (go_at_call 10; (with_reducible refine (K.out _ (btr hb8 (balloc _ _))).mono ?_); rintro e w9 ⟨rfl, hb9⟩))
  go_ret
  exact ⟨rfl, btr (btr hb8 (balloc _ _)) hb9⟩

set_option maxHeartbeats 800000 in
set_option maxRecDepth 100000 in
theorem widths_cp (n : Int) (hn0 : -9223372036854775808 ≤ n) (hn1 : n ≤ 9223372036854775807) (k0 : 2147483648 ≤ n) (w : World) (hT : TabsX w) :
    Calls Tryz.prog 6 #[.int .i64 n] w fun e w' => e = .returned (.bool true) ∧ Below w.heap.size w w' := by
  have K := Lib.hid (fun W (hb : Below w.heap.size w W) => awake_any W (hT.below hb))
  have B1 := fun W => call_byte n 0 W
  have B2 := fun W => call_word n 0 W
  have e1 : wrapV n 1 false = n % 256 := by simp [wrapV]
  have e2 : wrapV n 4 true = (n + 2147483648) % 4294967296 - 2147483648 := by simp [wrapV]
  have B3 := fun W => call_byte ((n + 2147483648) % 4294967296 - 2147483648) 0 W
  have e3 : wrapV ((n + 2147483648) % 4294967296 - 2147483648) 1 false = n % 256 := by simp [wrapV]; omega
  rw [e1] at B1
  rw [e2] at B2
  rw [e3] at B3
  obtain ⟨B, hB⟩ : ∃ B, B = n % 256 := ⟨_, rfl⟩
  obtain ⟨V, hV⟩ : ∃ V, V = (n + 2147483648) % 4294967296 - 2147483648 := ⟨_, rfl⟩
  rw [← hB] at B1 B3
  rw [← hV] at B2 B3
  have b0 : 0 ≤ B := by omega
  have b1 : B ≤ 255 := by omega
  have v0 : -2147483648 ≤ V := by omega
  have v1 : V < 2147483648 := by omega
  have f1 : (Int.tmod (wrap64 (n - V)) 4294967296 == 0) = true := by
    rw [beq_iff_eq]
    have h : ∃ t : Int, wrap64 (n - V) = 4294967296 * t := ⟨wrap64 (n - V) / 4294967296, by unfold wrap64; omega⟩
    obtain ⟨t, ht⟩ := h
    rw [ht]
    exact Int.mul_tmod_right _ _
  have f3 : (Int.tmod (n - V) 4294967296 == 0) = true := by
    rw [beq_iff_eq]
    have h : ∃ t : Int, n - V = 4294967296 * t := ⟨(n - V) / 4294967296, by omega⟩
    obtain ⟨t, ht⟩ := h
    rw [ht]
    exact Int.mul_tmod_right _ _
  have f4 : (bits .and .u64 n 255 == B) = true := by
    have hw : IntKind.u64.wrap n = n := by rw [u64w]; omega
    have := u64_low n
    rw [hw] at this
    rw [this, hB]; simp
  have f2 : (bits .and .u64 (IntKind.u64.wrap n) 255 == B) = true := by rw [u64_low, hB]; simp
  replace B1 := Lib.hid B1
  replace B2 := Lib.hid B2
  replace B3 := Lib.hid B3
  clear e1 e2 e3 hB hV hT
  go_enter Tryz.func6, Tryz.ntmps6
  go_wp2_with (first
    | (go_at_call 15; (with_reducible refine (rint_any n w).mono ?_); rintro e w1 ⟨rfl, hb1⟩)
    | (go_at_call 16; (with_reducible refine (B1.out w1).mono ?_); rintro e w2 ⟨rfl, hb2⟩; have hb3 := btr hb1 hb2)
    | (go_at_call 15; (with_reducible refine (rint_any n _).mono ?_); rintro e w4 ⟨rfl, hb4⟩)
    | (go_at_call 16; (with_reducible refine (B2.out w4).mono ?_); rintro e w5 ⟨rfl, hb5⟩; have hb6 := btr hb4 hb5; have p1 := (hb6.cell (p := ⟨w2.heap.size, 1, none⟩) (by simp)).trans (by simp [go_sem]; rfl); have z1 := (show w2.heap.size < w5.heap.size by have := hb6.size; simp at this; omega))
    | (go_at_call 16; (with_reducible refine (B3.out _).mono ?_); rintro e w7 ⟨rfl, hb7⟩; have p2 := (hb7.cell (p := ⟨w2.heap.size, 1, none⟩) (by simp; omega)).trans ((World.cell?_alloc_old _ _ _ (by simp only; omega)).trans p1); have p3 := (hb7.cell (p := ⟨w5.heap.size, 1, none⟩) (by simp)).trans (by simp [go_sem]; rfl); have z2 := (show w5.heap.size < w7.heap.size by have := hb7.size; simp at this; omega); have z3 := (show w2.heap.size < w7.heap.size by omega); have hb8 := btr (btr hb3 (bafter hb6)) (bafter hb7))
    | (go_at_call 10; (with_reducible refine (K.out _ (btr hb8 (balloc _ _))).mono ?_); rintro e w9 ⟨rfl, hb9⟩))
  go_ret
  exact ⟨rfl, btr (btr hb8 (balloc _ _)) hb9⟩

theorem walk_CastWidths (n : Int) (wn : (Lit.int .i64 n).wf = true) (w : World) (hT : TabsX w) :
    Calls Tryz.prog 6 #[.int .i64 n] w fun e w' => e = .returned (.bool true) ∧ Below w.heap.size w w' := by
  have hb := bd (fits_wf wn)
  by_cases h1 : n < -2147483648
  · exact widths_cn n hb.1 hb.2 h1 w hT
  by_cases h2 : n < 0
  · exact widths_bn n hb.1 hb.2 (by omega) h2 w hT
  by_cases h3 : n ≤ 255
  · exact widths_ax n hb.1 hb.2 (by omega) h3 w hT
  by_cases h4 : n < 2147483648
  · exact widths_bp n hb.1 hb.2 (by omega) h4 w hT
  · exact widths_cp n hb.1 hb.2 (by omega) w hT
end Go.Proofs.YtbghbfgbpdppeaaGreatDoor
