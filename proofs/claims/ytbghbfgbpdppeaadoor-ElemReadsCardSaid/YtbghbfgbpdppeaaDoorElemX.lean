
/- elem.Parse: what it returns, by what its pieces are read as. -/
import Derived.Test.YtbghbfgbpdppeaaDoorElemV
import Derived.Test.YtbghbfgbpdppeaaDoorLaidW
import Derived.Test.YtbghbfgbpdppeaaDoorElemL
import Derived.Test.YtbghbfgbpdppeaaDoorElemF
namespace Go.Proofs.YtbghbfgbpdppeaaDoor
open Go.ChangeShapes Go.WideShapes Go.ChangeAt Go.RowKit
set_option linter.unusedVariables false

set_option maxHeartbeats 1000000 in
set_option maxRecDepth 100000 in
theorem parseI_n (s m : ByteArray) (pre : Bool) (n : Nat) (w : World) (hk : ((n : Int) == 3) = false)
    (H : Hid (∀ W, Calls Tryd.prog 51 #[.string s, .string ⟨#[91, 42]⟩] W fun e w' => e = .returned (.bool pre) ∧ W = w'))
    (T : Hid (∀ W, Calls Tryd.prog 53 #[.string s, .string ⟨#[91, 42, 93]⟩] W fun e w' => e = .returned (.string m) ∧ Below W.heap.size W w'))
    (S : Hid (∀ W, Below w.heap.size w W → Calls Tryd.prog 52 #[.string m, .string ⟨#[46]⟩] W fun e w' => e = .returned (.slice (some ⟨W.heap.size, 0, none⟩) n n) ∧ Below W.heap.size W w')) :
    Calls Tryd.prog 30 #[.string s] w fun e w' => e = .returned (.tuple #[.int .u32 0, .int .i64 3]) ∧ Below w.heap.size w w' := by
  go_enter Tryd.func30, Tryd.ntmps30
  go_wp2_with (first
    | (go_at_call 51; (with_reducible refine (H.out _).mono ?_); rintro e w' ⟨rfl, rfl⟩)
    | (go_at_call 53; (with_reducible refine (T.out _).mono ?_); rintro e w1 ⟨rfl, hb1⟩)
    | (go_at_call 52; (with_reducible refine (S.out _ hb1).mono ?_); rintro e w2 ⟨rfl, hb2⟩))
  go_ret2
  exact ⟨rfl, btr hb1 hb2⟩
/-- the pieces and what has been read of them so far -/
structure PR (w : World) (b c : Nat) (P : Nat → ByteArray) (N : Nat → Int) (k : Nat) (wr : World) : Prop where
  piece : ∀ j, j < 3 → wr.cell? ⟨b, j, none⟩ = some (.string (P j))
  old : ∀ j, j < 3 → wr.cell? ⟨c, j, none⟩ = some (.int .i64 (if j < k then N j else 0))
  free : ∀ j, j < 3 → wr.frozen? ⟨c, j, none⟩ = false
  below : Below w.heap.size w wr
  sizes : b < wr.heap.size ∧ c < wr.heap.size
  apart : b ≠ c ∧ w.heap.size ≤ c
theorem PR.start {w w1 : World} (hb : Below w.heap.size w w1) (P : Nat → ByteArray) (N : Nat → Int) :
    PR w w1.heap.size (w1.heap.size + 1) P N 0 ((w1.alloc (Obj.cells #[.string (P 0), .string (P 1), .string (P 2)] 9)).alloc (Obj.cells #[.int .i64 0, .int .i64 0, .int .i64 0] 89)) where
  piece j hj := by
    have : j = 0 ∨ j = 1 ∨ j = 2 := by omega
    rcases this with rfl | rfl | rfl <;> simp [go_sem]
  old j hj := by
    have : j = 0 ∨ j = 1 ∨ j = 2 := by omega
    rcases this with rfl | rfl | rfl <;> simp [go_sem]
  free j hj := by
    have : j = 0 ∨ j = 1 ∨ j = 2 := by omega
    rcases this with rfl | rfl | rfl <;> simp [go_sem]
  below := (hb.alloc hb.size _).alloc (by have := hb.size; simp; omega) _
  sizes := by simp; omega
  apart := ⟨by omega, by have := hb.size; omega⟩
theorem PR.later {w : World} {b c : Nat} {P : Nat → ByteArray} {N : Nat → Int} {k : Nat} {wr w5 : World} (h : PR w b c P N k wr) (hb : Below wr.heap.size wr w5) : PR w b c P N k w5 where
  piece j hj := (hb.cell (p := ⟨b, j, none⟩) h.sizes.1).trans (h.piece j hj)
  old j hj := (hb.cell (p := ⟨c, j, none⟩) h.sizes.2).trans (h.old j hj)
  free j hj := (hb.frozen (p := ⟨c, j, none⟩) h.sizes.2).trans (h.free j hj)
  below := h.below.trans (hb.mono h.below.size)
  sizes := ⟨Nat.lt_of_lt_of_le h.sizes.1 hb.size, Nat.lt_of_lt_of_le h.sizes.2 hb.size⟩
  apart := h.apart
theorem PR.store {w : World} {b c : Nat} {P : Nat → ByteArray} {N : Nat → Int} {k : Nat} {wr : World} (h : PR w b c P N k wr) (hk : k < 3) : PR w b c P N (k + 1) (wr.setCell ⟨c, k, none⟩ (.int .i64 (N k))) where
  piece j hj := by
    rw [World.cell?_setCell_other _ _ _ _ (by intro hh; injection hh with hh; exact absurd hh.symm h.apart.1)]
    exact h.piece j hj
  old j hj := by
    by_cases e : j = k
    · subst e
      rw [World.cell?_setCell_same _ _ _ (h.old j hj), if_pos (by omega)]
    · rw [World.cell?_setCell_other _ _ _ _ (fun hh => e (by injection hh with _ h2 _; exact h2.symm)), h.old j hj]
      by_cases e2 : j < k
      · rw [if_pos e2, if_pos (by omega)]
      · rw [if_neg e2, if_neg (by omega)]
  free j hj := by
    have := h.free j hj
    simp [go_sem, this]
  below := h.below.setCell h.apart.2 _
  sizes := by have := h.sizes; simpa [go_sem] using this
  apart := h.apart

set_option maxHeartbeats 1000000 in
set_option maxRecDepth 100000 in
theorem parseI_f (s m : ByteArray) (P : Nat → ByteArray) (N : Nat → Int) (f : Nat) (hf3 : f < 3) (pre : Bool) (w : World)
    (H : Hid (∀ W, Calls Tryd.prog 51 #[.string s, .string ⟨#[91, 42]⟩] W fun e w' => e = .returned (.bool pre) ∧ W = w'))
    (T : Hid (∀ W, Calls Tryd.prog 53 #[.string s, .string ⟨#[91, 42, 93]⟩] W fun e w' => e = .returned (.string m) ∧ Below W.heap.size W w'))
    (S : Hid (∀ W, Below w.heap.size w W → Calls Tryd.prog 52 #[.string m, .string ⟨#[46]⟩] W fun e w' => e = .returned (.slice (some ⟨W.heap.size, 0, none⟩) 3 3) ∧ w' = W.alloc (.cells #[.string (P 0), .string (P 1), .string (P 2)] 9)))
    (U : Hid (∀ W j, j < f → Below w.heap.size w W → Calls Tryd.prog 54 #[.string (P j), .int .i64 16, .int .i64 16] W fun e w' => e = .returned (.tuple #[.int .u64 (N j), .nilIface]) ∧ Below W.heap.size W w'))
    (hN : ∀ j, j < 3 → 0 ≤ N j ∧ N j ≤ 65535)
    (E : Hid (∀ W, Below w.heap.size w W → Calls Tryd.prog 54 #[.string (P f), .int .i64 16, .int .i64 16] W fun e w' => ∃ x N, e = .returned (.tuple #[.int .u64 x, .iface 133 (.pointer (some ⟨N, 0, none⟩))]) ∧ Below W.heap.size W w')) :
    Calls Tryd.prog 30 #[.string s] w fun e w' => e = .returned (.tuple #[.int .u32 0, .int .i64 3]) ∧ Below w.heap.size w w' := by
  go_enter Tryd.func30, Tryd.ntmps30
  go_wp2_with (first
    | (go_at_call 51; (with_reducible refine (H.out _).mono ?_); rintro e w' ⟨rfl, rfl⟩)
    | (go_at_call 53; (with_reducible refine (T.out _).mono ?_); rintro e w1 ⟨rfl, hb1⟩)
    | (go_at_call 52; (with_reducible refine (S.out _ hb1).mono ?_); rintro e w2 ⟨rfl, rfl⟩))
  have hz1 := hb1.size
  clear H T S
  go_loopw [23] (fun vi wr => ∃ k : Nat, vi = .int .i64 k ∧ k ≤ f ∧ PR w w1.heap.size (w1.heap.size + 1) P N k wr) (fun vi _ => 3 - (intOf vi).toNat)
  case atStart => exact ⟨0, rfl, Nat.zero_le _, PR.start hb1 P N⟩
  case round =>
    obtain ⟨k, rfl, hk, hr⟩ := hrel
    have hk3 : k < 3 := by omega
    by_cases h : k < f
    · have hp := hr.piece k hk3
      have ho := hr.old k hk3
      have hf := hr.free k hk3
      have hn := hN k hk3
      obtain ⟨n0, n1⟩ := hn
      have C := Lib.hid (U.out wr k h hr.below)
      have hzz := hr.sizes
      replace hr := Lib.hid hr
      obtain ⟨n, hn'⟩ : ∃ n, N k = n := ⟨_, rfl⟩
      obtain ⟨q, hq'⟩ : ∃ q, P k = q := ⟨_, rfl⟩
      rw [hn'] at C n0 n1
      rw [hq'] at C hp
      replace hn' := Lib.hid hn'
      clear U hN hq'
      go_wp2_with (first
        | (go_at_call 54; (with_reducible refine C.out.mono ?_); rintro e w5 ⟨rfl, hb5⟩; have c5 := (hb5.cell (p := ⟨w1.heap.size + 1, k, none⟩) hzz.2).trans ho; have f5 := (hb5.frozen (p := ⟨w1.heap.size + 1, k, none⟩) hzz.2).trans hf))
      refine ⟨⟨k + 1, by go_num, by omega, ?_⟩, by simp [intOf]; omega⟩
      have hfin := (hr.out.later hb5).store hk3
      rw [hn'.out] at hfin
      exact hfin
    · have hkf : k = f := by omega
      subst hkf
      have hp := hr.piece k hk3
      have C := Lib.hid (E.out wr hr.below)
      have hbb := hr.below
      generalize P k = q at *
      clear U E hN hr
      go_wp2_with (first
        | (go_at_call 54; (with_reducible refine C.out.mono ?_); rintro e w5 ⟨x, g, rfl, hb5⟩))
      go_ret2
      exact ⟨rfl, btr hbb hb5⟩
set_option maxHeartbeats 1000000 in
set_option maxRecDepth 100000 in
theorem parseI_m (s m : ByteArray) (P : Nat → ByteArray) (N : Nat → Int) (pre : Bool) (w : World)
    (H : Hid (∀ W, Calls Tryd.prog 51 #[.string s, .string ⟨#[91, 42]⟩] W fun e w' => e = .returned (.bool pre) ∧ W = w'))
    (T : Hid (∀ W, Calls Tryd.prog 53 #[.string s, .string ⟨#[91, 42, 93]⟩] W fun e w' => e = .returned (.string m) ∧ Below W.heap.size W w'))
    (S : Hid (∀ W, Below w.heap.size w W → Calls Tryd.prog 52 #[.string m, .string ⟨#[46]⟩] W fun e w' => e = .returned (.slice (some ⟨W.heap.size, 0, none⟩) 3 3) ∧ w' = W.alloc (.cells #[.string (P 0), .string (P 1), .string (P 2)] 9)))
    (U : Hid (∀ W j, j < 3 → Below w.heap.size w W → Calls Tryd.prog 54 #[.string (P j), .int .i64 16, .int .i64 16] W fun e w' => e = .returned (.tuple #[.int .u64 (N j), .nilIface]) ∧ Below W.heap.size W w'))
    (hN : ∀ j, j < 3 → 0 ≤ N j ∧ N j ≤ 65535)
    (M : Hid (∀ W, Calls Tryd.prog 23 #[.int .i64 (N 0), .int .i64 (N 1), .int .i64 (N 2), .bool pre] W fun e w' => e = .returned (.tuple #[.int .u32 0, .int .i64 1]) ∧ W = w')) :
    Calls Tryd.prog 30 #[.string s] w fun e w' => e = .returned (.tuple #[.int .u32 0, .int .i64 3]) ∧ Below w.heap.size w w' := by
  go_enter Tryd.func30, Tryd.ntmps30
  go_wp2_with (first
    | (go_at_call 51; (with_reducible refine (H.out _).mono ?_); rintro e w' ⟨rfl, rfl⟩)
    | (go_at_call 53; (with_reducible refine (T.out _).mono ?_); rintro e w1 ⟨rfl, hb1⟩)
    | (go_at_call 52; (with_reducible refine (S.out _ hb1).mono ?_); rintro e w2 ⟨rfl, rfl⟩))
  have hz1 := hb1.size
  clear H T S
  go_loopw [23] (fun vi wr => ∃ k : Nat, vi = .int .i64 k ∧ k ≤ 3 ∧ PR w w1.heap.size (w1.heap.size + 1) P N k wr) (fun vi _ => 3 - (intOf vi).toNat)
  case atStart => exact ⟨0, rfl, Nat.zero_le _, PR.start hb1 P N⟩
  case round =>
    obtain ⟨k, rfl, hk, hr⟩ := hrel
    by_cases hk3 : k < 3
    · have hp := hr.piece k hk3
      have ho := hr.old k hk3
      have hf := hr.free k hk3
      have hn := hN k hk3
      obtain ⟨n0, n1⟩ := hn
      have C := Lib.hid (U.out wr k hk3 hr.below)
      have hzz := hr.sizes
      replace hr := Lib.hid hr
      obtain ⟨n, hn'⟩ : ∃ n, N k = n := ⟨_, rfl⟩
      obtain ⟨q, hq'⟩ : ∃ q, P k = q := ⟨_, rfl⟩
      rw [hn'] at C n0 n1
      rw [hq'] at C hp
      replace hn' := Lib.hid hn'
      clear U hN hq'
      go_wp2_with (first
        | (go_at_call 54; (with_reducible refine C.out.mono ?_); rintro e w5 ⟨rfl, hb5⟩; have c5 := (hb5.cell (p := ⟨w1.heap.size + 1, k, none⟩) hzz.2).trans ho; have f5 := (hb5.frozen (p := ⟨w1.heap.size + 1, k, none⟩) hzz.2).trans hf))
      refine ⟨⟨k + 1, by go_num, by omega, ?_⟩, by simp [intOf]; omega⟩
      have hfin := (hr.out.later hb5).store hk3
      rw [hn'.out] at hfin
      exact hfin
    · have hk3 : k = 3 := by omega
      subst hk3
      have o0 := hr.old 0 (by decide)
      have o1 := hr.old 1 (by decide)
      have o2 := hr.old 2 (by decide)
      simp only [show (0 : Nat) < 3 from by decide, show (1 : Nat) < 3 from by decide, show (2 : Nat) < 3 from by decide, if_true] at o0 o1 o2
      have hbb := hr.below
      clear U hN hr
      go_wp2_with (first
        | (go_at_call 23; (with_reducible refine (M.out _).mono ?_); rintro e w' ⟨rfl, rfl⟩))
      go_ret2
      exact ⟨rfl, hbb⟩
set_option maxHeartbeats 1000000 in
set_option maxRecDepth 100000 in
theorem parseI_x (s m : ByteArray) (P : Nat → ByteArray) (N : Nat → Int) (pre : Bool) (w : World)
    (H : Hid (∀ W, Calls Tryd.prog 51 #[.string s, .string ⟨#[91, 42]⟩] W fun e w' => e = .returned (.bool pre) ∧ W = w'))
    (T : Hid (∀ W, Calls Tryd.prog 53 #[.string s, .string ⟨#[91, 42, 93]⟩] W fun e w' => e = .returned (.string m) ∧ Below W.heap.size W w'))
    (S : Hid (∀ W, Below w.heap.size w W → Calls Tryd.prog 52 #[.string m, .string ⟨#[46]⟩] W fun e w' => e = .returned (.slice (some ⟨W.heap.size, 0, none⟩) 3 3) ∧ w' = W.alloc (.cells #[.string (P 0), .string (P 1), .string (P 2)] 9)))
    (U : Hid (∀ W j, j < 3 → Below w.heap.size w W → Calls Tryd.prog 54 #[.string (P j), .int .i64 16, .int .i64 16] W fun e w' => e = .returned (.tuple #[.int .u64 (N j), .nilIface]) ∧ Below W.heap.size W w'))
    (hN : ∀ j, j < 3 → 0 ≤ N j ∧ N j ≤ 65535)
    (x : Int) (M : Hid (∀ W, Calls Tryd.prog 23 #[.int .i64 (N 0), .int .i64 (N 1), .int .i64 (N 2), .bool pre] W fun e w' => e = .returned (.tuple #[.int .u32 x, .int .i64 0]) ∧ W = w'))
    (R : ByteArray) (X : Hid (∀ W, Below w.heap.size w W → Calls Tryd.prog 28 #[.int .u32 x] W fun e w' => e = .returned (.string R) ∧ Below W.heap.size W w')) (hR : (R.toList == s.toList) = false) :
    Calls Tryd.prog 30 #[.string s] w fun e w' => e = .returned (.tuple #[.int .u32 0, .int .i64 3]) ∧ Below w.heap.size w w' := by
  go_enter Tryd.func30, Tryd.ntmps30
  go_wp2_with (first
    | (go_at_call 51; (with_reducible refine (H.out _).mono ?_); rintro e w' ⟨rfl, rfl⟩)
    | (go_at_call 53; (with_reducible refine (T.out _).mono ?_); rintro e w1 ⟨rfl, hb1⟩)
    | (go_at_call 52; (with_reducible refine (S.out _ hb1).mono ?_); rintro e w2 ⟨rfl, rfl⟩))
  have hz1 := hb1.size
  clear H T S
  go_loopw [23] (fun vi wr => ∃ k : Nat, vi = .int .i64 k ∧ k ≤ 3 ∧ PR w w1.heap.size (w1.heap.size + 1) P N k wr) (fun vi _ => 3 - (intOf vi).toNat)
  case atStart => exact ⟨0, rfl, Nat.zero_le _, PR.start hb1 P N⟩
  case round =>
    obtain ⟨k, rfl, hk, hr⟩ := hrel
    by_cases hk3 : k < 3
    · have hp := hr.piece k hk3
      have ho := hr.old k hk3
      have hf := hr.free k hk3
      have hn := hN k hk3
      obtain ⟨n0, n1⟩ := hn
      have C := Lib.hid (U.out wr k hk3 hr.below)
      have hzz := hr.sizes
      replace hr := Lib.hid hr
      obtain ⟨n, hn'⟩ : ∃ n, N k = n := ⟨_, rfl⟩
      obtain ⟨q, hq'⟩ : ∃ q, P k = q := ⟨_, rfl⟩
      rw [hn'] at C n0 n1
      rw [hq'] at C hp
      replace hn' := Lib.hid hn'
      clear U hN hq'
      go_wp2_with (first
        | (go_at_call 54; (with_reducible refine C.out.mono ?_); rintro e w5 ⟨rfl, hb5⟩; have c5 := (hb5.cell (p := ⟨w1.heap.size + 1, k, none⟩) hzz.2).trans ho; have f5 := (hb5.frozen (p := ⟨w1.heap.size + 1, k, none⟩) hzz.2).trans hf))
      refine ⟨⟨k + 1, by go_num, by omega, ?_⟩, by simp [intOf]; omega⟩
      have hfin := (hr.out.later hb5).store hk3
      rw [hn'.out] at hfin
      exact hfin
    · have hk3 : k = 3 := by omega
      subst hk3
      have o0 := hr.old 0 (by decide)
      have o1 := hr.old 1 (by decide)
      have o2 := hr.old 2 (by decide)
      simp only [show (0 : Nat) < 3 from by decide, show (1 : Nat) < 3 from by decide, show (2 : Nat) < 3 from by decide, if_true] at o0 o1 o2
      have hbb := hr.below
      clear U hN hr
      go_wp2_with (first
        | (go_at_call 23; (with_reducible refine (M.out _).mono ?_); rintro e w' ⟨rfl, rfl⟩)
        | (go_at_call 28; (with_reducible refine (X.out _ hbb).mono ?_); rintro e w6 ⟨rfl, hb6⟩))
      go_ret2
      exact ⟨rfl, btr hbb hb6⟩
set_option maxHeartbeats 1000000 in
set_option maxRecDepth 100000 in
theorem parseI_ok (s m : ByteArray) (P : Nat → ByteArray) (N : Nat → Int) (pre : Bool) (w : World)
    (H : Hid (∀ W, Calls Tryd.prog 51 #[.string s, .string ⟨#[91, 42]⟩] W fun e w' => e = .returned (.bool pre) ∧ W = w'))
    (T : Hid (∀ W, Calls Tryd.prog 53 #[.string s, .string ⟨#[91, 42, 93]⟩] W fun e w' => e = .returned (.string m) ∧ Below W.heap.size W w'))
    (S : Hid (∀ W, Below w.heap.size w W → Calls Tryd.prog 52 #[.string m, .string ⟨#[46]⟩] W fun e w' => e = .returned (.slice (some ⟨W.heap.size, 0, none⟩) 3 3) ∧ w' = W.alloc (.cells #[.string (P 0), .string (P 1), .string (P 2)] 9)))
    (U : Hid (∀ W j, j < 3 → Below w.heap.size w W → Calls Tryd.prog 54 #[.string (P j), .int .i64 16, .int .i64 16] W fun e w' => e = .returned (.tuple #[.int .u64 (N j), .nilIface]) ∧ Below W.heap.size W w'))
    (hN : ∀ j, j < 3 → 0 ≤ N j ∧ N j ≤ 65535)
    (x : Int) (M : Hid (∀ W, Calls Tryd.prog 23 #[.int .i64 (N 0), .int .i64 (N 1), .int .i64 (N 2), .bool pre] W fun e w' => e = .returned (.tuple #[.int .u32 x, .int .i64 0]) ∧ W = w'))
    (R : ByteArray) (X : Hid (∀ W, Below w.heap.size w W → Calls Tryd.prog 28 #[.int .u32 x] W fun e w' => e = .returned (.string R) ∧ Below W.heap.size W w')) (hR : R = s) :
    Calls Tryd.prog 30 #[.string s] w fun e w' => e = .returned (.tuple #[.int .u32 x, .int .i64 0]) ∧ Below w.heap.size w w' := by
  subst hR
  go_enter Tryd.func30, Tryd.ntmps30
  go_wp2_with (first
    | (go_at_call 51; (with_reducible refine (H.out _).mono ?_); rintro e w' ⟨rfl, rfl⟩)
    | (go_at_call 53; (with_reducible refine (T.out _).mono ?_); rintro e w1 ⟨rfl, hb1⟩)
    | (go_at_call 52; (with_reducible refine (S.out _ hb1).mono ?_); rintro e w2 ⟨rfl, rfl⟩))
  have hz1 := hb1.size
  clear H T S
  go_loopw [23] (fun vi wr => ∃ k : Nat, vi = .int .i64 k ∧ k ≤ 3 ∧ PR w w1.heap.size (w1.heap.size + 1) P N k wr) (fun vi _ => 3 - (intOf vi).toNat)
  case atStart => exact ⟨0, rfl, Nat.zero_le _, PR.start hb1 P N⟩
  case round =>
    obtain ⟨k, rfl, hk, hr⟩ := hrel
    by_cases hk3 : k < 3
    · have hp := hr.piece k hk3
      have ho := hr.old k hk3
      have hf := hr.free k hk3
      have hn := hN k hk3
      obtain ⟨n0, n1⟩ := hn
      have C := Lib.hid (U.out wr k hk3 hr.below)
      have hzz := hr.sizes
      replace hr := Lib.hid hr
      obtain ⟨n, hn'⟩ : ∃ n, N k = n := ⟨_, rfl⟩
      obtain ⟨q, hq'⟩ : ∃ q, P k = q := ⟨_, rfl⟩
      rw [hn'] at C n0 n1
      rw [hq'] at C hp
      replace hn' := Lib.hid hn'
      clear U hN hq'
      go_wp2_with (first
        | (go_at_call 54; (with_reducible refine C.out.mono ?_); rintro e w5 ⟨rfl, hb5⟩; have c5 := (hb5.cell (p := ⟨w1.heap.size + 1, k, none⟩) hzz.2).trans ho; have f5 := (hb5.frozen (p := ⟨w1.heap.size + 1, k, none⟩) hzz.2).trans hf))
      refine ⟨⟨k + 1, by go_num, by omega, ?_⟩, by simp [intOf]; omega⟩
      have hfin := (hr.out.later hb5).store hk3
      rw [hn'.out] at hfin
      exact hfin
    · have hk3 : k = 3 := by omega
      subst hk3
      have o0 := hr.old 0 (by decide)
      have o1 := hr.old 1 (by decide)
      have o2 := hr.old 2 (by decide)
      simp only [show (0 : Nat) < 3 from by decide, show (1 : Nat) < 3 from by decide, show (2 : Nat) < 3 from by decide, if_true] at o0 o1 o2
      have hbb := hr.below
      clear U hN hr
      go_wp2_with (first
        | (go_at_call 23; (with_reducible refine (M.out _).mono ?_); rintro e w' ⟨rfl, rfl⟩)
        | (go_at_call 28; (with_reducible refine (X.out _ hbb).mono ?_); rintro e w6 ⟨rfl, hb6⟩))
      go_ret2
      exact ⟨rfl, btr hbb hb6⟩
end Go.Proofs.YtbghbfgbpdppeaaDoor
