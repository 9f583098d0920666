
/- ElemReads is true of every input: the walk, where the listed variables stand. -/
import Derived.Test.YtbghbfgbpdppeaaDoorElemY
import Derived.Test.YtbghbfgbpdppeaaDoorTextW
namespace Go.Proofs.YtbghbfgbpdppeaaDoor
open Go.ChangeShapes Go.WideShapes Go.ChangeAt Go.RowKit
set_option linter.unusedVariables false

theorem nat_of_u32' {a : Int} (h : (Lit.int .u32 a).wf = true) : ∃ x : Nat, a = (x : Int) ∧ x < 4294967296 := by
  simp [Lit.wf, IntKind.min, IntKind.max, IntKind.signed, IntKind.bits] at h
  exact ⟨a.toNat, by omega, by omega⟩
theorem byte_of {a : Int} (h : (Lit.int .u8 a).wf = true) : ∃ c : UInt8, a = (c.toNat : Int) := by
  simp [Lit.wf, IntKind.min, IntKind.max, IntKind.signed, IntKind.bits] at h
  exact ⟨UInt8.ofNat a.toNat, by rw [UInt8.toNat_ofNat']; omega⟩
/-- the place -/
theorem place (a : Int) (n : Nat) (h0 : 0 < n) (h1 : n ≤ 100) : 0 ≤ (wrap64 (a.tmod n + n)).tmod n ∧ (wrap64 (a.tmod n + n)).tmod n < n := by
  have l1 := Int.tmod_lt_of_pos a (show (0 : Int) < n by omega)
  have l2 := Int.lt_tmod_of_pos a (show (0 : Int) < n by omega)
  have hw : wrap64 (a.tmod n + n) = a.tmod n + n := by unfold wrap64; omega
  rw [hw]
  exact ⟨Int.tmod_nonneg _ (by omega), Int.tmod_lt_of_pos _ (by omega)⟩
theorem conv_byte (w : World) (c : UInt8) (W : World) (hW : W.heap = (w.alloc (.cells #[.int .u8 (c.toNat : Int)] 5)).heap) :
    (convert 59 9 (.slice (some ⟨w.heap.size, 0, none⟩) 1 1)).run Tryd.prog W = .ok (.string ⟨#[c]⟩) W := by
  have e := run_convert_bytes_arg W 59 5 Tryd.underlying59 Tryd.underlying5 w.heap.size 0 1 1 [(c.toNat : Int)] rfl (fun i hi => by
    obtain rfl : i = 0 := by omega
    have h1 : W.cell? ⟨w.heap.size, 0 + 0, none⟩ = (w.alloc (.cells #[.int .u8 (c.toNat : Int)] 5)).cell? ⟨w.heap.size, 0 + 0, none⟩ := World.cell?_of_block (by rw [hW])
    rw [h1, Nat.zero_add, World.cell?_alloc_at _ _ _ _ rfl]
    rfl) 9 Tryd.underlying9
  have e2 : strOfNums [(c.toNat : Int)] = ⟨#[c]⟩ := by
    unfold strOfNums
    simp
  rw [e2] at e
  exact e
set_option maxHeartbeats 2000000 in
set_option maxRecDepth 100000 in
theorem readsI_1k (p s t x a h : Int) (j : Nat) (c : UInt8) (v : Bool) (T S : ByteArray) (w : World) (hj : j < T.size) (hT2 : T.size ≤ 13) (hp : (wrap64 (a.tmod T.size + T.size)).tmod T.size = j) (hm : bits .and .i64 h 3 = 1)
    (hS : Hid (T.extract 0 j ++ T.extract (j + 1) T.size = S))
    (O : Hid (∀ W, Calls Tryd.prog 20 #[.int .u32 x] W fun e w' => e = .returned (ev p s t v) ∧ Below W.heap.size W w'))
    (T2 : Hid (∀ W, Calls Tryd.prog 29 #[ev p s t v] W fun e w' => e = .returned (.string T) ∧ Below W.heap.size W w'))
    (K : Hid (∀ W, Below w.heap.size w W → Calls Tryd.prog 22 #[] W fun e w' => e = .returned (.bool true) ∧ Below W.heap.size W w'))
    (y p' s' t' : Int) (v' : Bool)
    (Q : Hid (∀ W, Below w.heap.size w W → Calls Tryd.prog 30 #[.string S] W fun e w' => e = .returned (.tuple #[.int .u32 y, .int .i64 0]) ∧ Below W.heap.size W w'))
    (O' : Hid (∀ W, Calls Tryd.prog 20 #[.int .u32 y] W fun e w' => e = .returned (ev p' s' t' v') ∧ Below W.heap.size W w'))
    (T2' : Hid (∀ W, Calls Tryd.prog 29 #[ev p' s' t' v'] W fun e w' => e = .returned (.string S) ∧ Below W.heap.size W w')) :
    Calls Tryd.prog 8 #[.int .u32 x, .int .i64 a, .int .u8 (c.toNat : Int), .int .i64 h] w fun e w' => e = .returned (.bool true) ∧ Below w.heap.size w w' := by
  have hc1 : (c.toNat : Int) ≤ 255 := by have := c.toNat_lt; omega
  go_enter Tryd.func8, Tryd.ntmps8
  go_wp2_with (first
    | (go_at_call 20; (with_reducible refine (O.out _).mono ?_); rintro e w1 ⟨rfl, hb1⟩)
    | (go_at_call 29; (with_reducible refine (T2.out _).mono ?_); rintro e w2 ⟨rfl, hb2⟩))
  try rw [hp]
  clear hp O T2
  have hb := btr hb1 hb2
  clear hb1 hb2
  have CB := Lib.hid (fun W0 W hW => conv_byte W0 c W hW)
  have D0 := conv_byte w2 c (w2.alloc (.cells #[.int .u8 (c.toNat : Int)] 5)).drew rfl
  generalize (c.toNat : Int) = cz at *
  go_region
  have hb0 : Below w.heap.size w ((w2.alloc (.cells #[.int .u8 cz] 5)).drew) := (hb.alloc hb.size _).drew
  generalize (w2.alloc (.cells #[.int .u8 cz] 5)).drew = w3 at *
  clear D0 hb
  go_wp2_with fail
  go_region
  replace hb0 := hb0.drew
  generalize w3.drew = w3 at *
  clear CB
  go_wp2_with (first
    | (rw [hS.out]; go_at_call 30; (with_reducible refine (Q.out _ hb0).mono ?_); rintro e w4 ⟨rfl, hb4⟩)
    | (go_at_call 20; (with_reducible refine (O'.out _).mono ?_); rintro e w5 ⟨rfl, hb5⟩)
    | (go_at_call 29; (with_reducible refine (T2'.out _).mono ?_); rintro e w6 ⟨rfl, hb6⟩)
    | (go_at_call 22; (with_reducible refine (K.out _ (btr (btr (btr hb0 hb4) hb5) hb6)).mono ?_); rintro e w7 ⟨rfl, hb7⟩))
  go_ret
  exact ⟨rfl, btr (btr (btr (btr hb0 hb4) hb5) hb6) hb7⟩
set_option maxHeartbeats 2000000 in
set_option maxRecDepth 100000 in
theorem readsI_1e (p s t x a h : Int) (j : Nat) (c : UInt8) (v : Bool) (T S : ByteArray) (w : World) (hj : j < T.size) (hT2 : T.size ≤ 13) (hp : (wrap64 (a.tmod T.size + T.size)).tmod T.size = j) (hm : bits .and .i64 h 3 = 1)
    (hS : Hid (T.extract 0 j ++ T.extract (j + 1) T.size = S))
    (O : Hid (∀ W, Calls Tryd.prog 20 #[.int .u32 x] W fun e w' => e = .returned (ev p s t v) ∧ Below W.heap.size W w'))
    (T2 : Hid (∀ W, Calls Tryd.prog 29 #[ev p s t v] W fun e w' => e = .returned (.string T) ∧ Below W.heap.size W w'))
    (K : Hid (∀ W, Below w.heap.size w W → Calls Tryd.prog 22 #[] W fun e w' => e = .returned (.bool true) ∧ Below W.heap.size W w'))
    (Q : Hid (∀ W, Below w.heap.size w W → Calls Tryd.prog 30 #[.string S] W fun e w' => e = .returned (.tuple #[.int .u32 0, .int .i64 3]) ∧ Below W.heap.size W w'))
    (hne : (S.toList == T.toList) = false) :
    Calls Tryd.prog 8 #[.int .u32 x, .int .i64 a, .int .u8 (c.toNat : Int), .int .i64 h] w fun e w' => e = .returned (.bool true) ∧ Below w.heap.size w w' := by
  have hc1 : (c.toNat : Int) ≤ 255 := by have := c.toNat_lt; omega
  go_enter Tryd.func8, Tryd.ntmps8
  go_wp2_with (first
    | (go_at_call 20; (with_reducible refine (O.out _).mono ?_); rintro e w1 ⟨rfl, hb1⟩)
    | (go_at_call 29; (with_reducible refine (T2.out _).mono ?_); rintro e w2 ⟨rfl, hb2⟩))
  try rw [hp]
  clear hp O T2
  have hb := btr hb1 hb2
  clear hb1 hb2
  have CB := Lib.hid (fun W0 W hW => conv_byte W0 c W hW)
  have D0 := conv_byte w2 c (w2.alloc (.cells #[.int .u8 (c.toNat : Int)] 5)).drew rfl
  generalize (c.toNat : Int) = cz at *
  go_region
  have hb0 : Below w.heap.size w ((w2.alloc (.cells #[.int .u8 cz] 5)).drew) := (hb.alloc hb.size _).drew
  generalize (w2.alloc (.cells #[.int .u8 cz] 5)).drew = w3 at *
  clear D0 hb
  go_wp2_with fail
  go_region
  replace hb0 := hb0.drew
  generalize w3.drew = w3 at *
  clear CB
  go_wp2_with (first
    | (rw [hS.out]; go_at_call 30; (with_reducible refine (Q.out _ hb0).mono ?_); rintro e w4 ⟨rfl, hb4⟩)
    | (go_at_call 22; (with_reducible refine (K.out _ (btr hb0 hb4)).mono ?_); rintro e w7 ⟨rfl, hb7⟩))
  go_ret
  exact ⟨rfl, btr (btr hb0 hb4) hb7⟩
set_option maxHeartbeats 2000000 in
set_option maxRecDepth 100000 in
theorem readsI_2k (p s t x a h : Int) (j : Nat) (c : UInt8) (v : Bool) (T S : ByteArray) (w : World) (hj : j < T.size) (hT2 : T.size ≤ 13) (hp : (wrap64 (a.tmod T.size + T.size)).tmod T.size = j) (hm : bits .and .i64 h 3 = 2)
    (hS : Hid (T.extract 0 j ++ { data := #[c] } ++ T.extract j T.size = S))
    (O : Hid (∀ W, Calls Tryd.prog 20 #[.int .u32 x] W fun e w' => e = .returned (ev p s t v) ∧ Below W.heap.size W w'))
    (T2 : Hid (∀ W, Calls Tryd.prog 29 #[ev p s t v] W fun e w' => e = .returned (.string T) ∧ Below W.heap.size W w'))
    (K : Hid (∀ W, Below w.heap.size w W → Calls Tryd.prog 22 #[] W fun e w' => e = .returned (.bool true) ∧ Below W.heap.size W w'))
    (y p' s' t' : Int) (v' : Bool)
    (Q : Hid (∀ W, Below w.heap.size w W → Calls Tryd.prog 30 #[.string S] W fun e w' => e = .returned (.tuple #[.int .u32 y, .int .i64 0]) ∧ Below W.heap.size W w'))
    (O' : Hid (∀ W, Calls Tryd.prog 20 #[.int .u32 y] W fun e w' => e = .returned (ev p' s' t' v') ∧ Below W.heap.size W w'))
    (T2' : Hid (∀ W, Calls Tryd.prog 29 #[ev p' s' t' v'] W fun e w' => e = .returned (.string S) ∧ Below W.heap.size W w')) :
    Calls Tryd.prog 8 #[.int .u32 x, .int .i64 a, .int .u8 (c.toNat : Int), .int .i64 h] w fun e w' => e = .returned (.bool true) ∧ Below w.heap.size w w' := by
  have hc1 : (c.toNat : Int) ≤ 255 := by have := c.toNat_lt; omega
  go_enter Tryd.func8, Tryd.ntmps8
  go_wp2_with (first
    | (go_at_call 20; (with_reducible refine (O.out _).mono ?_); rintro e w1 ⟨rfl, hb1⟩)
    | (go_at_call 29; (with_reducible refine (T2.out _).mono ?_); rintro e w2 ⟨rfl, hb2⟩))
  try rw [hp]
  clear hp O T2
  have hb := btr hb1 hb2
  clear hb1 hb2
  have CB := Lib.hid (fun W0 W hW => conv_byte W0 c W hW)
  have D0 := conv_byte w2 c (w2.alloc (.cells #[.int .u8 (c.toNat : Int)] 5)).drew rfl
  generalize (c.toNat : Int) = cz at *
  go_region
  have hb0 : Below w.heap.size w ((w2.alloc (.cells #[.int .u8 cz] 5)).drew) := (hb.alloc hb.size _).drew
  generalize (w2.alloc (.cells #[.int .u8 cz] 5)).drew = w3 at *
  clear D0 hb
  go_wp2_with fail
  have D1 := CB.out w3 (w3.alloc (.cells #[.int .u8 cz] 5)).drew rfl
  clear CB
  go_region
  replace hb0 : Below w.heap.size w ((w3.alloc (.cells #[.int .u8 cz] 5)).drew) := (hb0.alloc hb0.size _).drew
  generalize (w3.alloc (.cells #[.int .u8 cz] 5)).drew = w3 at *
  clear D1
  go_wp2_with (first
    | (rw [hS.out]; go_at_call 30; (with_reducible refine (Q.out _ hb0).mono ?_); rintro e w4 ⟨rfl, hb4⟩)
    | (go_at_call 20; (with_reducible refine (O'.out _).mono ?_); rintro e w5 ⟨rfl, hb5⟩)
    | (go_at_call 29; (with_reducible refine (T2'.out _).mono ?_); rintro e w6 ⟨rfl, hb6⟩)
    | (go_at_call 22; (with_reducible refine (K.out _ (btr (btr (btr hb0 hb4) hb5) hb6)).mono ?_); rintro e w7 ⟨rfl, hb7⟩))
  go_ret
  exact ⟨rfl, btr (btr (btr (btr hb0 hb4) hb5) hb6) hb7⟩
set_option maxHeartbeats 2000000 in
set_option maxRecDepth 100000 in
theorem readsI_2e (p s t x a h : Int) (j : Nat) (c : UInt8) (v : Bool) (T S : ByteArray) (w : World) (hj : j < T.size) (hT2 : T.size ≤ 13) (hp : (wrap64 (a.tmod T.size + T.size)).tmod T.size = j) (hm : bits .and .i64 h 3 = 2)
    (hS : Hid (T.extract 0 j ++ { data := #[c] } ++ T.extract j T.size = S))
    (O : Hid (∀ W, Calls Tryd.prog 20 #[.int .u32 x] W fun e w' => e = .returned (ev p s t v) ∧ Below W.heap.size W w'))
    (T2 : Hid (∀ W, Calls Tryd.prog 29 #[ev p s t v] W fun e w' => e = .returned (.string T) ∧ Below W.heap.size W w'))
    (K : Hid (∀ W, Below w.heap.size w W → Calls Tryd.prog 22 #[] W fun e w' => e = .returned (.bool true) ∧ Below W.heap.size W w'))
    (Q : Hid (∀ W, Below w.heap.size w W → Calls Tryd.prog 30 #[.string S] W fun e w' => e = .returned (.tuple #[.int .u32 0, .int .i64 3]) ∧ Below W.heap.size W w'))
    (hne : (S.toList == T.toList) = false) :
    Calls Tryd.prog 8 #[.int .u32 x, .int .i64 a, .int .u8 (c.toNat : Int), .int .i64 h] w fun e w' => e = .returned (.bool true) ∧ Below w.heap.size w w' := by
  have hc1 : (c.toNat : Int) ≤ 255 := by have := c.toNat_lt; omega
  go_enter Tryd.func8, Tryd.ntmps8
  go_wp2_with (first
    | (go_at_call 20; (with_reducible refine (O.out _).mono ?_); rintro e w1 ⟨rfl, hb1⟩)
    | (go_at_call 29; (with_reducible refine (T2.out _).mono ?_); rintro e w2 ⟨rfl, hb2⟩))
  try rw [hp]
  clear hp O T2
  have hb := btr hb1 hb2
  clear hb1 hb2
  have CB := Lib.hid (fun W0 W hW => conv_byte W0 c W hW)
  have D0 := conv_byte w2 c (w2.alloc (.cells #[.int .u8 (c.toNat : Int)] 5)).drew rfl
  generalize (c.toNat : Int) = cz at *
  go_region
  have hb0 : Below w.heap.size w ((w2.alloc (.cells #[.int .u8 cz] 5)).drew) := (hb.alloc hb.size _).drew
  generalize (w2.alloc (.cells #[.int .u8 cz] 5)).drew = w3 at *
  clear D0 hb
  go_wp2_with fail
  have D1 := CB.out w3 (w3.alloc (.cells #[.int .u8 cz] 5)).drew rfl
  clear CB
  go_region
  replace hb0 : Below w.heap.size w ((w3.alloc (.cells #[.int .u8 cz] 5)).drew) := (hb0.alloc hb0.size _).drew
  generalize (w3.alloc (.cells #[.int .u8 cz] 5)).drew = w3 at *
  clear D1
  go_wp2_with (first
    | (rw [hS.out]; go_at_call 30; (with_reducible refine (Q.out _ hb0).mono ?_); rintro e w4 ⟨rfl, hb4⟩)
    | (go_at_call 22; (with_reducible refine (K.out _ (btr hb0 hb4)).mono ?_); rintro e w7 ⟨rfl, hb7⟩))
  go_ret
  exact ⟨rfl, btr (btr hb0 hb4) hb7⟩
set_option maxHeartbeats 2000000 in
set_option maxRecDepth 100000 in
theorem readsI_0k (p s t x a h : Int) (j : Nat) (c : UInt8) (v : Bool) (T S : ByteArray) (w : World) (hj : j < T.size) (hT2 : T.size ≤ 13) (hp : (wrap64 (a.tmod T.size + T.size)).tmod T.size = j) (hm1 : (bits .and .i64 h 3 == 1) = false) (hm2 : (bits .and .i64 h 3 == 2) = false)
    (hS : Hid (T.extract 0 j ++ { data := #[c] } ++ T.extract (j + 1) T.size = S))
    (O : Hid (∀ W, Calls Tryd.prog 20 #[.int .u32 x] W fun e w' => e = .returned (ev p s t v) ∧ Below W.heap.size W w'))
    (T2 : Hid (∀ W, Calls Tryd.prog 29 #[ev p s t v] W fun e w' => e = .returned (.string T) ∧ Below W.heap.size W w'))
    (K : Hid (∀ W, Below w.heap.size w W → Calls Tryd.prog 22 #[] W fun e w' => e = .returned (.bool true) ∧ Below W.heap.size W w'))
    (y p' s' t' : Int) (v' : Bool)
    (Q : Hid (∀ W, Below w.heap.size w W → Calls Tryd.prog 30 #[.string S] W fun e w' => e = .returned (.tuple #[.int .u32 y, .int .i64 0]) ∧ Below W.heap.size W w'))
    (O' : Hid (∀ W, Calls Tryd.prog 20 #[.int .u32 y] W fun e w' => e = .returned (ev p' s' t' v') ∧ Below W.heap.size W w'))
    (T2' : Hid (∀ W, Calls Tryd.prog 29 #[ev p' s' t' v'] W fun e w' => e = .returned (.string S) ∧ Below W.heap.size W w')) :
    Calls Tryd.prog 8 #[.int .u32 x, .int .i64 a, .int .u8 (c.toNat : Int), .int .i64 h] w fun e w' => e = .returned (.bool true) ∧ Below w.heap.size w w' := by
  have hc1 : (c.toNat : Int) ≤ 255 := by have := c.toNat_lt; omega
  go_enter Tryd.func8, Tryd.ntmps8
  go_wp2_with (first
    | (go_at_call 20; (with_reducible refine (O.out _).mono ?_); rintro e w1 ⟨rfl, hb1⟩)
    | (go_at_call 29; (with_reducible refine (T2.out _).mono ?_); rintro e w2 ⟨rfl, hb2⟩))
  try rw [hp]
  clear hp O T2
  have hb := btr hb1 hb2
  clear hb1 hb2
  have CB := Lib.hid (fun W0 W hW => conv_byte W0 c W hW)
  have D0 := conv_byte w2 c (w2.alloc (.cells #[.int .u8 (c.toNat : Int)] 5)).drew rfl
  generalize (c.toNat : Int) = cz at *
  go_region
  have hb0 : Below w.heap.size w ((w2.alloc (.cells #[.int .u8 cz] 5)).drew) := (hb.alloc hb.size _).drew
  generalize (w2.alloc (.cells #[.int .u8 cz] 5)).drew = w3 at *
  clear D0 hb
  go_wp2_with (first
    | (rw [hS.out]; go_at_call 30; (with_reducible refine (Q.out _ hb0).mono ?_); rintro e w4 ⟨rfl, hb4⟩)
    | (go_at_call 20; (with_reducible refine (O'.out _).mono ?_); rintro e w5 ⟨rfl, hb5⟩)
    | (go_at_call 29; (with_reducible refine (T2'.out _).mono ?_); rintro e w6 ⟨rfl, hb6⟩)
    | (go_at_call 22; (with_reducible refine (K.out _ (btr (btr (btr hb0 hb4) hb5) hb6)).mono ?_); rintro e w7 ⟨rfl, hb7⟩))
  go_ret
  exact ⟨rfl, btr (btr (btr (btr hb0 hb4) hb5) hb6) hb7⟩
set_option maxHeartbeats 2000000 in
set_option maxRecDepth 100000 in
theorem readsI_0e (p s t x a h : Int) (j : Nat) (c : UInt8) (v : Bool) (T S : ByteArray) (w : World) (hj : j < T.size) (hT2 : T.size ≤ 13) (hp : (wrap64 (a.tmod T.size + T.size)).tmod T.size = j) (hm1 : (bits .and .i64 h 3 == 1) = false) (hm2 : (bits .and .i64 h 3 == 2) = false)
    (hS : Hid (T.extract 0 j ++ { data := #[c] } ++ T.extract (j + 1) T.size = S))
    (O : Hid (∀ W, Calls Tryd.prog 20 #[.int .u32 x] W fun e w' => e = .returned (ev p s t v) ∧ Below W.heap.size W w'))
    (T2 : Hid (∀ W, Calls Tryd.prog 29 #[ev p s t v] W fun e w' => e = .returned (.string T) ∧ Below W.heap.size W w'))
    (K : Hid (∀ W, Below w.heap.size w W → Calls Tryd.prog 22 #[] W fun e w' => e = .returned (.bool true) ∧ Below W.heap.size W w'))
    (Q : Hid (∀ W, Below w.heap.size w W → Calls Tryd.prog 30 #[.string S] W fun e w' => e = .returned (.tuple #[.int .u32 0, .int .i64 3]) ∧ Below W.heap.size W w'))
    (hne : (S.toList == T.toList) = false) :
    Calls Tryd.prog 8 #[.int .u32 x, .int .i64 a, .int .u8 (c.toNat : Int), .int .i64 h] w fun e w' => e = .returned (.bool true) ∧ Below w.heap.size w w' := by
  have hc1 : (c.toNat : Int) ≤ 255 := by have := c.toNat_lt; omega
  go_enter Tryd.func8, Tryd.ntmps8
  go_wp2_with (first
    | (go_at_call 20; (with_reducible refine (O.out _).mono ?_); rintro e w1 ⟨rfl, hb1⟩)
    | (go_at_call 29; (with_reducible refine (T2.out _).mono ?_); rintro e w2 ⟨rfl, hb2⟩))
  try rw [hp]
  clear hp O T2
  have hb := btr hb1 hb2
  clear hb1 hb2
  have CB := Lib.hid (fun W0 W hW => conv_byte W0 c W hW)
  have D0 := conv_byte w2 c (w2.alloc (.cells #[.int .u8 (c.toNat : Int)] 5)).drew rfl
  generalize (c.toNat : Int) = cz at *
  go_region
  have hb0 : Below w.heap.size w ((w2.alloc (.cells #[.int .u8 cz] 5)).drew) := (hb.alloc hb.size _).drew
  generalize (w2.alloc (.cells #[.int .u8 cz] 5)).drew = w3 at *
  clear D0 hb
  go_wp2_with (first
    | (rw [hS.out]; go_at_call 30; (with_reducible refine (Q.out _ hb0).mono ?_); rintro e w4 ⟨rfl, hb4⟩)
    | (go_at_call 22; (with_reducible refine (K.out _ (btr hb0 hb4)).mono ?_); rintro e w7 ⟨rfl, hb7⟩))
  go_ret
  exact ⟨rfl, btr (btr hb0 hb4) hb7⟩
theorem walk_ElemReads (a b d h : Int) (wa : (Lit.int .u32 a).wf = true) (wb : (Lit.int .i64 b).wf = true) (wd : (Lit.int .u8 d).wf = true) (wh : (Lit.int .i64 h).wf = true) (w : World) (hT : TabsW w) :
    Calls Tryd.prog 8 #[.int .u32 a, .int .i64 b, .int .u8 d, .int .i64 h] w fun e w' => e = .returned (.bool true) ∧ Below w.heap.size w w' := by
  obtain ⟨x, rfl, hx⟩ := nat_of_u32' wa
  obtain ⟨c, rfl⟩ := byte_of wd
  clear wa wb wd wh
  obtain ⟨T, hTx⟩ : ∃ T : ByteArray, T = ⟨(txt x).toArray⟩ := ⟨_, rfl⟩
  have hbT : bl T = txt x := by rw [hTx]
  have hsz : T.size = (txt x).length := by rw [← hbT, bl_len]
  have h13 : T.size ≤ 13 := by rw [hsz]; exact txt_len x
  have h1 : 0 < T.size := by rw [hsz]; unfold txt; simp; omega
  obtain ⟨q0, q1⟩ := place b T.size h1 (by omega)
  obtain ⟨j, hj⟩ : ∃ j : Nat, (wrap64 (b.tmod T.size + T.size)).tmod T.size = j := ⟨_, (Int.toNat_of_nonneg q0).symm⟩
  have hjl : j < T.size := by rw [hj] at q1; omega
  have O := Lib.hid (fun W => of_any x W hx)
  have T2 : Hid (∀ W, Calls Tryd.prog 29 #[ev (wP x) (wS x) (wT x) (wV x)] W fun e w' => e = .returned (.string T) ∧ Below W.heap.size W w') := Lib.hid (fun W => by rw [hTx]; exact rtext_any x W hx)
  have K := Lib.hid (fun W (hb : Below w.heap.size w W) => awake_elem W (hT.below hb).1)
  have e1 := ext_size T 0 j
  have e2 := ext_size T (j + 1) T.size
  have e3 := ext_size T j T.size
  have D : ∀ S : ByteArray, S.size ≤ 100000 → (∃ y : Nat, Hid (∀ W, Below w.heap.size w W → Calls Tryd.prog 30 #[.string S] W fun e w' => e = .returned (.tuple #[.int .u32 (y : Int), .int .i64 0]) ∧ Below W.heap.size W w') ∧
      Hid (∀ W, Calls Tryd.prog 20 #[.int .u32 y] W fun e w' => e = .returned (ev (wP y) (wS y) (wT y) (wV y)) ∧ Below W.heap.size W w') ∧
      Hid (∀ W, Calls Tryd.prog 29 #[ev (wP y) (wS y) (wT y) (wV y)] W fun e w' => e = .returned (.string S) ∧ Below W.heap.size W w')) ∨
      (Hid (∀ W, Below w.heap.size w W → Calls Tryd.prog 30 #[.string S] W fun e w' => e = .returned (.tuple #[.int .u32 0, .int .i64 3]) ∧ Below W.heap.size W w') ∧ (S.toList == T.toList) = false) := by
    intro S hS
    by_cases hy : ∃ y : Nat, y < 4294967296 ∧ txt y = bl S
    · obtain ⟨y, hy, hys⟩ := hy
      refine .inl ⟨y, Lib.hid (fun W hb => (parse_all S W hS (hT.below hb)).mono fun e w' ⟨hA, hb2⟩ => ⟨hA.own y hy hys, hb2⟩), Lib.hid (fun W => of_any y W hy), Lib.hid (fun W => ?_)⟩
      have hSe : (⟨(txt y).toArray⟩ : ByteArray) = S := bytes_inj hys
      rw [← hSe]
      exact rtext_any y W hy
    · refine .inr ⟨Lib.hid (fun W hb => (parse_all S W hS (hT.below hb)).mono fun e w' ⟨hA, hb2⟩ => ⟨?_, hb2⟩), ?_⟩
      · rcases hA.ans with h | ⟨y, h1, h2, _⟩
        · exact h
        · exact absurd ⟨y, h1, h2⟩ hy
      · rw [ByteArray.toList_eq, ByteArray.toList_eq, beq_eq_false_iff_ne]
        intro hh
        exact hy ⟨x, hx, by rw [← hbT]; exact hh.symm⟩
  by_cases m1 : bits .and .i64 h 3 = 1
  · rcases D (T.extract 0 j ++ T.extract (j + 1) T.size) (by rw [ByteArray.size_append]; omega) with ⟨y, Q, O', T2'⟩ | ⟨Q, hne⟩
    · exact readsI_1k _ _ _ _ _ _ _ _ _ _ _ _ hjl h13 hj m1 (Lib.hid rfl) O T2 K _ _ _ _ _ Q O' T2'
    · exact readsI_1e _ _ _ _ _ _ _ _ _ _ _ _ hjl h13 hj m1 (Lib.hid rfl) O T2 K Q hne
  by_cases m2 : bits .and .i64 h 3 = 2
  · rcases D (T.extract 0 j ++ ⟨#[c]⟩ ++ T.extract j T.size) (by rw [ByteArray.size_append, ByteArray.size_append]; have : (⟨#[c]⟩ : ByteArray).size = 1 := rfl; omega) with ⟨y, Q, O', T2'⟩ | ⟨Q, hne⟩
    · exact readsI_2k _ _ _ _ _ _ _ _ _ _ _ _ hjl h13 hj m2 (Lib.hid rfl) O T2 K _ _ _ _ _ Q O' T2'
    · exact readsI_2e _ _ _ _ _ _ _ _ _ _ _ _ hjl h13 hj m2 (Lib.hid rfl) O T2 K Q hne
  · rcases D (T.extract 0 j ++ ⟨#[c]⟩ ++ T.extract (j + 1) T.size) (by rw [ByteArray.size_append, ByteArray.size_append]; have : (⟨#[c]⟩ : ByteArray).size = 1 := rfl; omega) with ⟨y, Q, O', T2'⟩ | ⟨Q, hne⟩
    · exact readsI_0k _ _ _ _ _ _ _ _ _ _ _ _ hjl h13 hj (by simpa using m1) (by simpa using m2) (Lib.hid rfl) O T2 K _ _ _ _ _ Q O' T2'
    · exact readsI_0e _ _ _ _ _ _ _ _ _ _ _ _ hjl h13 hj (by simpa using m1) (by simpa using m2) (Lib.hid rfl) O T2 K Q hne
end Go.Proofs.YtbghbfgbpdppeaaDoor
