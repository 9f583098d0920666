
/- The document's first sign of a text (umlautref1.Sign) is the program's: for every text that is not empty. -/
import Derived.Test.YtmpnblibbcocpaaDoorTextA
namespace Go.Proofs.YtmpnblibbcocpaaDoor
open Go.ChangeShapes Go.WideShapes Go.ChangeAt Go.RowKit Go.Lib

theorem eq1 {n b0 b1 b2 b3 : Nat} (h : b0 < 128) : sgN n b0 b1 b2 b3 = (b0, 1) := by
  unfold sgN
  rw [decodeN_ascii _ _ _ _ _ h, if_neg (by simp; omega)]
theorem eq2 {n b0 b1 b2 b3 : Nat} (h0 : 194 ≤ b0) (h1 : b0 ≤ 223) (hn : 1 < n) (h2 : 128 ≤ b1) (h3 : b1 ≤ 191) : sgN n b0 b1 b2 b3 = ((b0 - 192) * 64 + b1 - 128, 2) := by
  have e : decodeN n b0 b1 b2 b3 = ((b0 - 192) * 64 + b1 - 128, 2) := by
    unfold decodeN
    rw [if_neg (by omega), if_pos (by omega), if_pos (by omega), Prod.mk.injEq]
    exact ⟨by omega, rfl⟩
  unfold sgN
  rw [e, if_neg (by simp)]
theorem eq3 {n b0 b1 b2 b3 : Nat} (h0 : 224 ≤ b0) (h1 : b0 ≤ 239) (hn : 2 < n) (h2 : 128 ≤ b1) (h3 : b1 ≤ 191) (h4 : 128 ≤ b2) (h5 : b2 ≤ 191)
    (hv : 2048 ≤ (b0 - 224) * 4096 + (b1 - 128) * 64 + b2 - 128) (hs : (b0 - 224) * 4096 + (b1 - 128) * 64 + b2 - 128 < 55296 ∨ 57343 < (b0 - 224) * 4096 + (b1 - 128) * 64 + b2 - 128) :
    sgN n b0 b1 b2 b3 = ((b0 - 224) * 4096 + (b1 - 128) * 64 + b2 - 128, 3) := by
  have e : decodeN n b0 b1 b2 b3 = ((b0 - 224) * 4096 + (b1 - 128) * 64 + b2 - 128, 3) := by
    unfold decodeN
    rw [if_neg (by omega), if_neg (by omega), if_pos (by omega), if_pos (by omega), Prod.mk.injEq]
    exact ⟨by omega, rfl⟩
  unfold sgN
  rw [e, if_neg (by simp)]
theorem eq4 {n b0 b1 b2 b3 : Nat} (h0 : 240 ≤ b0) (h1 : b0 ≤ 244) (hn : 3 < n) (h2 : 128 ≤ b1) (h3 : b1 ≤ 191) (h4 : 128 ≤ b2) (h5 : b2 ≤ 191) (h6 : 128 ≤ b3) (h7 : b3 ≤ 191)
    (hv : 65536 ≤ (b0 - 240) * 262144 + (b1 - 128) * 4096 + (b2 - 128) * 64 + b3 - 128) (hs : (b0 - 240) * 262144 + (b1 - 128) * 4096 + (b2 - 128) * 64 + b3 - 128 ≤ 1114111) :
    sgN n b0 b1 b2 b3 = ((b0 - 240) * 262144 + (b1 - 128) * 4096 + (b2 - 128) * 64 + b3 - 128, 4) := by
  have e : decodeN n b0 b1 b2 b3 = ((b0 - 240) * 262144 + (b1 - 128) * 4096 + (b2 - 128) * 64 + b3 - 128, 4) := by
    unfold decodeN
    rw [if_neg (by omega), if_neg (by omega), if_neg (by omega), if_pos (by omega), if_pos (by omega), Prod.mk.injEq]
    exact ⟨by omega, rfl⟩
  unfold sgN
  rw [e, if_neg (by simp)]
theorem eqB {n b0 b1 b2 b3 : Nat} (hb : 128 ≤ b0) (h8 : b0 < 256) (h2 : ¬ (194 ≤ b0 ∧ b0 ≤ 223 ∧ 1 < n ∧ 128 ≤ b1 ∧ b1 ≤ 191))
    (h3 : ¬ (224 ≤ b0 ∧ b0 ≤ 239 ∧ 2 < n ∧ 128 ≤ b1 ∧ b1 ≤ 191 ∧ 128 ≤ b2 ∧ b2 ≤ 191 ∧ 2048 ≤ (b0 - 224) * 4096 + (b1 - 128) * 64 + b2 - 128 ∧ ((b0 - 224) * 4096 + (b1 - 128) * 64 + b2 - 128 < 55296 ∨ 57343 < (b0 - 224) * 4096 + (b1 - 128) * 64 + b2 - 128)))
    (h4 : ¬ (240 ≤ b0 ∧ b0 ≤ 244 ∧ 3 < n ∧ 128 ≤ b1 ∧ b1 ≤ 191 ∧ 128 ≤ b2 ∧ b2 ≤ 191 ∧ 128 ≤ b3 ∧ b3 ≤ 191 ∧ 65536 ≤ (b0 - 240) * 262144 + (b1 - 128) * 4096 + (b2 - 128) * 64 + b3 - 128 ∧ (b0 - 240) * 262144 + (b1 - 128) * 4096 + (b2 - 128) * 64 + b3 - 128 ≤ 1114111)) :
    sgN n b0 b1 b2 b3 = (1114112 + b0, 1) := by
  rcases sgN_shape n b0 b1 b2 b3 with ⟨c, e⟩ | ⟨c1, c2, c3, cv, e⟩ | ⟨c1, c2, c3, c4, cv, cs, e⟩ | ⟨c1, c2, c3, c4, c5, cv, cw, e⟩ | ⟨c, _, e⟩
  · omega
  · exfalso; omega
  · exfalso; omega
  · exfalso; omega
  · exact e

theorem tail_yes (b : Nat) (w : World) (h0 : 128 ≤ b) (h1 : b ≤ 191) :
    Calls Tryd.prog 46 #[.int .u8 b] w fun e w' => e = .returned (.bool true) ∧ w = w' := by
  have hd : decide ((b : Int) ≤ 191) = true := by simp; omega
  go_enter Tryd.func46, Tryd.ntmps46
  go_wp2
  go_ret
  exact ⟨rfl, rfl⟩
theorem tail_no (b : Nat) (w : World) (h : b < 128 ∨ 191 < b) :
    Calls Tryd.prog 46 #[.int .u8 b] w fun e w' => e = .returned (.bool false) ∧ w = w' := by
  rcases h with h | h
  · go_enter Tryd.func46, Tryd.ntmps46
    go_wp2
    go_ret
    exact ⟨rfl, rfl⟩
  · have h' : ¬ b < 128 := by omega
    have hd : decide ((b : Int) ≤ 191) = false := by simp; omega
    go_enter Tryd.func46, Tryd.ntmps46
    go_wp2
    go_ret
    exact ⟨rfl, rfl⟩

theorem bl_at {s : ByteArray} {k : Nat} (h : k < s.size) : (s[k]'h).toNat = bt (bl s) k := by
  have hl : k < (bl s).length := by rw [bl_len]; exact h
  unfold bt
  rw [List.getD, List.getElem?_eq_getElem hl]
  rfl

set_option maxRecDepth 100000 in
theorem rsign_a (s : ByteArray) (w : World) (hs0 : 0 < s.size) (B0 B1 B2 B3 : Nat) (e0 : bt (bl s) 0 = B0) (e1 : bt (bl s) 1 = B1) (e2 : bt (bl s) 2 = B2) (e3 : bt (bl s) 3 = B3) (c0 : B0 < 128) :
    Calls Tryd.prog 35 #[.string s] w fun e w' => e = .returned (.tuple #[.int .i64 (sg (bl s)).1, .int .i64 (sg (bl s)).2]) ∧ Below w.heap.size w w' := by
  have k0 := bt_lt (bl s) 0
  have k1 := bt_lt (bl s) 1
  have k2 := bt_lt (bl s) 2
  have k3 := bt_lt (bl s) 3
  have R : sg (bl s) = (B0, 1) := by
    unfold sg
    rw [bl_len, e0, e1, e2, e3]
    rw [e0] at k0
    exact eq1 c0
  rw [R]
  clear R
  have f0 := (bl_at hs0).trans e0
  rw [e0] at k0
  rw [e1] at k1
  rw [e2] at k2
  rw [e3] at k3
  clear e0 e1 e2 e3
  go_enter Tryd.func35, Tryd.ntmps35
  go_wp2
  go_ret2
  exact ⟨ret2 (by omega) rfl, Below.refl _ _⟩
set_option maxRecDepth 100000 in
theorem rsign_e1 (s : ByteArray) (w : World) (hs0 : 0 < s.size) (B0 B1 B2 B3 : Nat) (e0 : bt (bl s) 0 = B0) (e1 : bt (bl s) 1 = B1) (e2 : bt (bl s) 2 = B2) (e3 : bt (bl s) 3 = B3) (c0 : 128 ≤ B0) (c1 : B0 ≤ 193) :
    Calls Tryd.prog 35 #[.string s] w fun e w' => e = .returned (.tuple #[.int .i64 (sg (bl s)).1, .int .i64 (sg (bl s)).2]) ∧ Below w.heap.size w w' := by
  have k0 := bt_lt (bl s) 0
  have k1 := bt_lt (bl s) 1
  have k2 := bt_lt (bl s) 2
  have k3 := bt_lt (bl s) 3
  have R : sg (bl s) = (1114112 + B0, 1) := by
    unfold sg
    rw [bl_len, e0, e1, e2, e3]
    rw [e0] at k0
    exact eqB (by omega) (by omega) (by omega) (by omega) (by omega)
  rw [R]
  clear R
  have f0 := (bl_at hs0).trans e0
  rw [e0] at k0
  rw [e1] at k1
  rw [e2] at k2
  rw [e3] at k3
  clear e0 e1 e2 e3
  go_enter Tryd.func35, Tryd.ntmps35
  go_wp2
  go_ret2
  exact ⟨ret2 (by omega) rfl, Below.refl _ _⟩
set_option maxRecDepth 100000 in
theorem rsign_e2 (s : ByteArray) (w : World) (hs0 : 0 < s.size) (B0 B1 B2 B3 : Nat) (e0 : bt (bl s) 0 = B0) (e1 : bt (bl s) 1 = B1) (e2 : bt (bl s) 2 = B2) (e3 : bt (bl s) 3 = B3) (c0 : 245 ≤ B0) :
    Calls Tryd.prog 35 #[.string s] w fun e w' => e = .returned (.tuple #[.int .i64 (sg (bl s)).1, .int .i64 (sg (bl s)).2]) ∧ Below w.heap.size w w' := by
  have k0 := bt_lt (bl s) 0
  have k1 := bt_lt (bl s) 1
  have k2 := bt_lt (bl s) 2
  have k3 := bt_lt (bl s) 3
  have R : sg (bl s) = (1114112 + B0, 1) := by
    unfold sg
    rw [bl_len, e0, e1, e2, e3]
    rw [e0] at k0
    exact eqB (by omega) (by omega) (by omega) (by omega) (by omega)
  rw [R]
  clear R
  have f0 := (bl_at hs0).trans e0
  rw [e0] at k0
  rw [e1] at k1
  rw [e2] at k2
  rw [e3] at k3
  clear e0 e1 e2 e3
  go_enter Tryd.func35, Tryd.ntmps35
  go_wp2
  go_ret2
  exact ⟨ret2 (by omega) rfl, Below.refl _ _⟩
set_option maxRecDepth 100000 in
theorem rsign_b1 (s : ByteArray) (w : World) (hs0 : 0 < s.size) (B0 B1 B2 B3 : Nat) (e0 : bt (bl s) 0 = B0) (e1 : bt (bl s) 1 = B1) (e2 : bt (bl s) 2 = B2) (e3 : bt (bl s) 3 = B3) (c0 : 194 ≤ B0) (c1 : B0 ≤ 223) (m : 1 < s.size) (t1 : 128 ≤ B1) (u1 : B1 ≤ 191) :
    Calls Tryd.prog 35 #[.string s] w fun e w' => e = .returned (.tuple #[.int .i64 (sg (bl s)).1, .int .i64 (sg (bl s)).2]) ∧ Below w.heap.size w w' := by
  have k0 := bt_lt (bl s) 0
  have k1 := bt_lt (bl s) 1
  have k2 := bt_lt (bl s) 2
  have k3 := bt_lt (bl s) 3
  have R : sg (bl s) = ((B0 - 192) * 64 + B1 - 128, 2) := by
    unfold sg
    rw [bl_len, e0, e1, e2, e3]
    rw [e0] at k0
    exact eq2 c0 c1 m t1 u1
  rw [R]
  clear R
  have f0 := (bl_at hs0).trans e0
  have f1 := (bl_at (s := s) (k := 1) (by omega)).trans e1
  have T1 := fun W => tail_yes B1 W t1 u1
  rw [e0] at k0
  rw [e1] at k1
  rw [e2] at k2
  rw [e3] at k3
  clear e0 e1 e2 e3
  go_enter Tryd.func35, Tryd.ntmps35
  go_wp2_with (first | (go_at_call 46; (with_reducible refine (T1 _).mono ?_); rintro e w' ⟨rfl, rfl⟩) )
  go_ret2
  exact ⟨ret2 (by omega) rfl, Below.refl _ _⟩
set_option maxRecDepth 100000 in
theorem rsign_b2 (s : ByteArray) (w : World) (hs0 : 0 < s.size) (B0 B1 B2 B3 : Nat) (e0 : bt (bl s) 0 = B0) (e1 : bt (bl s) 1 = B1) (e2 : bt (bl s) 2 = B2) (e3 : bt (bl s) 3 = B3) (c0 : 194 ≤ B0) (c1 : B0 ≤ 223) (m : 1 < s.size) (t1 : B1 < 128 ∨ 191 < B1) :
    Calls Tryd.prog 35 #[.string s] w fun e w' => e = .returned (.tuple #[.int .i64 (sg (bl s)).1, .int .i64 (sg (bl s)).2]) ∧ Below w.heap.size w w' := by
  have k0 := bt_lt (bl s) 0
  have k1 := bt_lt (bl s) 1
  have k2 := bt_lt (bl s) 2
  have k3 := bt_lt (bl s) 3
  have R : sg (bl s) = (1114112 + B0, 1) := by
    unfold sg
    rw [bl_len, e0, e1, e2, e3]
    rw [e0] at k0
    exact eqB (by omega) (by omega) (by omega) (by omega) (by omega)
  rw [R]
  clear R
  have f0 := (bl_at hs0).trans e0
  have f1 := (bl_at (s := s) (k := 1) (by omega)).trans e1
  have T1 := fun W => tail_no B1 W t1
  rw [e0] at k0
  rw [e1] at k1
  rw [e2] at k2
  rw [e3] at k3
  clear e0 e1 e2 e3
  go_enter Tryd.func35, Tryd.ntmps35
  go_wp2_with (first | (go_at_call 46; (with_reducible refine (T1 _).mono ?_); rintro e w' ⟨rfl, rfl⟩) )
  go_ret2
  exact ⟨ret2 (by omega) rfl, Below.refl _ _⟩
set_option maxRecDepth 100000 in
theorem rsign_b3 (s : ByteArray) (w : World) (hs0 : 0 < s.size) (B0 B1 B2 B3 : Nat) (e0 : bt (bl s) 0 = B0) (e1 : bt (bl s) 1 = B1) (e2 : bt (bl s) 2 = B2) (e3 : bt (bl s) 3 = B3) (c0 : 194 ≤ B0) (c1 : B0 ≤ 223) (m : s.size ≤ 1) :
    Calls Tryd.prog 35 #[.string s] w fun e w' => e = .returned (.tuple #[.int .i64 (sg (bl s)).1, .int .i64 (sg (bl s)).2]) ∧ Below w.heap.size w w' := by
  have k0 := bt_lt (bl s) 0
  have k1 := bt_lt (bl s) 1
  have k2 := bt_lt (bl s) 2
  have k3 := bt_lt (bl s) 3
  have R : sg (bl s) = (1114112 + B0, 1) := by
    unfold sg
    rw [bl_len, e0, e1, e2, e3]
    rw [e0] at k0
    exact eqB (by omega) (by omega) (by omega) (by omega) (by omega)
  rw [R]
  clear R
  have f0 := (bl_at hs0).trans e0
  rw [e0] at k0
  rw [e1] at k1
  rw [e2] at k2
  rw [e3] at k3
  clear e0 e1 e2 e3
  go_enter Tryd.func35, Tryd.ntmps35
  go_wp2
  go_ret2
  exact ⟨ret2 (by omega) rfl, Below.refl _ _⟩
set_option maxRecDepth 100000 in
theorem rsign_c1 (s : ByteArray) (w : World) (hs0 : 0 < s.size) (B0 B1 B2 B3 : Nat) (e0 : bt (bl s) 0 = B0) (e1 : bt (bl s) 1 = B1) (e2 : bt (bl s) 2 = B2) (e3 : bt (bl s) 3 = B3) (c0 : 224 ≤ B0) (c1 : B0 ≤ 239) (m : 2 < s.size) (t1 : 128 ≤ B1) (u1 : B1 ≤ 191) (t2 : 128 ≤ B2) (u2 : B2 ≤ 191) (hv : 2048 ≤ (B0 - 224) * 4096 + (B1 - 128) * 64 + B2 - 128) (hs : (B0 - 224) * 4096 + (B1 - 128) * 64 + B2 - 128 < 55296) :
    Calls Tryd.prog 35 #[.string s] w fun e w' => e = .returned (.tuple #[.int .i64 (sg (bl s)).1, .int .i64 (sg (bl s)).2]) ∧ Below w.heap.size w w' := by
  have k0 := bt_lt (bl s) 0
  have k1 := bt_lt (bl s) 1
  have k2 := bt_lt (bl s) 2
  have k3 := bt_lt (bl s) 3
  have R : sg (bl s) = ((B0 - 224) * 4096 + (B1 - 128) * 64 + B2 - 128, 3) := by
    unfold sg
    rw [bl_len, e0, e1, e2, e3]
    rw [e0] at k0
    exact eq3 c0 c1 m t1 u1 t2 u2 hv (.inl hs)
  rw [R]
  clear R
  have f0 := (bl_at hs0).trans e0
  have f1 := (bl_at (s := s) (k := 1) (by omega)).trans e1
  have f2 := (bl_at (s := s) (k := 2) (by omega)).trans e2
  have T1 := fun W => tail_yes B1 W t1 u1
  have T2 := fun W => tail_yes B2 W t2 u2
  rw [e0] at k0
  rw [e1] at k1
  rw [e2] at k2
  rw [e3] at k3
  clear e0 e1 e2 e3
  go_enter Tryd.func35, Tryd.ntmps35
  go_wp2_with (first | (go_at_call 46; (with_reducible refine (T1 _).mono ?_); rintro e w' ⟨rfl, rfl⟩) | (go_at_call 46; (with_reducible refine (T2 _).mono ?_); rintro e w' ⟨rfl, rfl⟩) )
  go_region
  all_goals (try go_wp2)
  all_goals go_ret2
  all_goals exact ⟨ret2 (by omega) rfl, (Below.refl _ _).drew⟩
set_option maxRecDepth 100000 in
theorem rsign_c2 (s : ByteArray) (w : World) (hs0 : 0 < s.size) (B0 B1 B2 B3 : Nat) (e0 : bt (bl s) 0 = B0) (e1 : bt (bl s) 1 = B1) (e2 : bt (bl s) 2 = B2) (e3 : bt (bl s) 3 = B3) (c0 : 224 ≤ B0) (c1 : B0 ≤ 239) (m : 2 < s.size) (t1 : 128 ≤ B1) (u1 : B1 ≤ 191) (t2 : 128 ≤ B2) (u2 : B2 ≤ 191) (hv : 57343 < (B0 - 224) * 4096 + (B1 - 128) * 64 + B2 - 128) :
    Calls Tryd.prog 35 #[.string s] w fun e w' => e = .returned (.tuple #[.int .i64 (sg (bl s)).1, .int .i64 (sg (bl s)).2]) ∧ Below w.heap.size w w' := by
  have k0 := bt_lt (bl s) 0
  have k1 := bt_lt (bl s) 1
  have k2 := bt_lt (bl s) 2
  have k3 := bt_lt (bl s) 3
  have R : sg (bl s) = ((B0 - 224) * 4096 + (B1 - 128) * 64 + B2 - 128, 3) := by
    unfold sg
    rw [bl_len, e0, e1, e2, e3]
    rw [e0] at k0
    exact eq3 c0 c1 m t1 u1 t2 u2 (by omega) (.inr hv)
  rw [R]
  clear R
  have f0 := (bl_at hs0).trans e0
  have f1 := (bl_at (s := s) (k := 1) (by omega)).trans e1
  have f2 := (bl_at (s := s) (k := 2) (by omega)).trans e2
  have T1 := fun W => tail_yes B1 W t1 u1
  have T2 := fun W => tail_yes B2 W t2 u2
  rw [e0] at k0
  rw [e1] at k1
  rw [e2] at k2
  rw [e3] at k3
  clear e0 e1 e2 e3
  go_enter Tryd.func35, Tryd.ntmps35
  go_wp2_with (first | (go_at_call 46; (with_reducible refine (T1 _).mono ?_); rintro e w' ⟨rfl, rfl⟩) | (go_at_call 46; (with_reducible refine (T2 _).mono ?_); rintro e w' ⟨rfl, rfl⟩) )
  go_region
  all_goals (try go_wp2)
  all_goals go_ret2
  all_goals exact ⟨ret2 (by omega) rfl, (Below.refl _ _).drew⟩
set_option maxRecDepth 100000 in
theorem rsign_c3 (s : ByteArray) (w : World) (hs0 : 0 < s.size) (B0 B1 B2 B3 : Nat) (e0 : bt (bl s) 0 = B0) (e1 : bt (bl s) 1 = B1) (e2 : bt (bl s) 2 = B2) (e3 : bt (bl s) 3 = B3) (c0 : 224 ≤ B0) (c1 : B0 ≤ 239) (m : 2 < s.size) (t1 : 128 ≤ B1) (u1 : B1 ≤ 191) (t2 : 128 ≤ B2) (u2 : B2 ≤ 191) (hv : (B0 - 224) * 4096 + (B1 - 128) * 64 + B2 - 128 < 2048) :
    Calls Tryd.prog 35 #[.string s] w fun e w' => e = .returned (.tuple #[.int .i64 (sg (bl s)).1, .int .i64 (sg (bl s)).2]) ∧ Below w.heap.size w w' := by
  have k0 := bt_lt (bl s) 0
  have k1 := bt_lt (bl s) 1
  have k2 := bt_lt (bl s) 2
  have k3 := bt_lt (bl s) 3
  have R : sg (bl s) = (1114112 + B0, 1) := by
    unfold sg
    rw [bl_len, e0, e1, e2, e3]
    rw [e0] at k0
    exact eqB (by omega) (by omega) (by omega) (by omega) (by omega)
  rw [R]
  clear R
  have f0 := (bl_at hs0).trans e0
  have f1 := (bl_at (s := s) (k := 1) (by omega)).trans e1
  have f2 := (bl_at (s := s) (k := 2) (by omega)).trans e2
  have T1 := fun W => tail_yes B1 W t1 u1
  have T2 := fun W => tail_yes B2 W t2 u2
  rw [e0] at k0
  rw [e1] at k1
  rw [e2] at k2
  rw [e3] at k3
  clear e0 e1 e2 e3
  go_enter Tryd.func35, Tryd.ntmps35
  go_wp2_with (first | (go_at_call 46; (with_reducible refine (T1 _).mono ?_); rintro e w' ⟨rfl, rfl⟩) | (go_at_call 46; (with_reducible refine (T2 _).mono ?_); rintro e w' ⟨rfl, rfl⟩) )
  go_region
  all_goals (try go_wp2)
  all_goals go_ret2
  all_goals exact ⟨ret2 (by omega) rfl, (Below.refl _ _).drew⟩
set_option maxRecDepth 100000 in
theorem rsign_c4 (s : ByteArray) (w : World) (hs0 : 0 < s.size) (B0 B1 B2 B3 : Nat) (e0 : bt (bl s) 0 = B0) (e1 : bt (bl s) 1 = B1) (e2 : bt (bl s) 2 = B2) (e3 : bt (bl s) 3 = B3) (c0 : 224 ≤ B0) (c1 : B0 ≤ 239) (m : 2 < s.size) (t1 : 128 ≤ B1) (u1 : B1 ≤ 191) (t2 : 128 ≤ B2) (u2 : B2 ≤ 191) (hv : 55296 ≤ (B0 - 224) * 4096 + (B1 - 128) * 64 + B2 - 128) (hs : (B0 - 224) * 4096 + (B1 - 128) * 64 + B2 - 128 ≤ 57343) :
    Calls Tryd.prog 35 #[.string s] w fun e w' => e = .returned (.tuple #[.int .i64 (sg (bl s)).1, .int .i64 (sg (bl s)).2]) ∧ Below w.heap.size w w' := by
  have k0 := bt_lt (bl s) 0
  have k1 := bt_lt (bl s) 1
  have k2 := bt_lt (bl s) 2
  have k3 := bt_lt (bl s) 3
  have R : sg (bl s) = (1114112 + B0, 1) := by
    unfold sg
    rw [bl_len, e0, e1, e2, e3]
    rw [e0] at k0
    exact eqB (by omega) (by omega) (by omega) (by omega) (by omega)
  rw [R]
  clear R
  have f0 := (bl_at hs0).trans e0
  have f1 := (bl_at (s := s) (k := 1) (by omega)).trans e1
  have f2 := (bl_at (s := s) (k := 2) (by omega)).trans e2
  have T1 := fun W => tail_yes B1 W t1 u1
  have T2 := fun W => tail_yes B2 W t2 u2
  rw [e0] at k0
  rw [e1] at k1
  rw [e2] at k2
  rw [e3] at k3
  clear e0 e1 e2 e3
  go_enter Tryd.func35, Tryd.ntmps35
  go_wp2_with (first | (go_at_call 46; (with_reducible refine (T1 _).mono ?_); rintro e w' ⟨rfl, rfl⟩) | (go_at_call 46; (with_reducible refine (T2 _).mono ?_); rintro e w' ⟨rfl, rfl⟩) )
  go_region
  all_goals (try go_wp2)
  all_goals go_ret2
  all_goals exact ⟨ret2 (by omega) rfl, (Below.refl _ _).drew⟩
set_option maxRecDepth 100000 in
theorem rsign_c5 (s : ByteArray) (w : World) (hs0 : 0 < s.size) (B0 B1 B2 B3 : Nat) (e0 : bt (bl s) 0 = B0) (e1 : bt (bl s) 1 = B1) (e2 : bt (bl s) 2 = B2) (e3 : bt (bl s) 3 = B3) (c0 : 224 ≤ B0) (c1 : B0 ≤ 239) (m : 2 < s.size) (t1 : 128 ≤ B1) (u1 : B1 ≤ 191) (t2 : B2 < 128 ∨ 191 < B2) :
    Calls Tryd.prog 35 #[.string s] w fun e w' => e = .returned (.tuple #[.int .i64 (sg (bl s)).1, .int .i64 (sg (bl s)).2]) ∧ Below w.heap.size w w' := by
  have k0 := bt_lt (bl s) 0
  have k1 := bt_lt (bl s) 1
  have k2 := bt_lt (bl s) 2
  have k3 := bt_lt (bl s) 3
  have R : sg (bl s) = (1114112 + B0, 1) := by
    unfold sg
    rw [bl_len, e0, e1, e2, e3]
    rw [e0] at k0
    exact eqB (by omega) (by omega) (by omega) (by omega) (by omega)
  rw [R]
  clear R
  have f0 := (bl_at hs0).trans e0
  have f1 := (bl_at (s := s) (k := 1) (by omega)).trans e1
  have f2 := (bl_at (s := s) (k := 2) (by omega)).trans e2
  have T1 := fun W => tail_yes B1 W t1 u1
  have T2 := fun W => tail_no B2 W t2
  rw [e0] at k0
  rw [e1] at k1
  rw [e2] at k2
  rw [e3] at k3
  clear e0 e1 e2 e3
  go_enter Tryd.func35, Tryd.ntmps35
  go_wp2_with (first | (go_at_call 46; (with_reducible refine (T1 _).mono ?_); rintro e w' ⟨rfl, rfl⟩) | (go_at_call 46; (with_reducible refine (T2 _).mono ?_); rintro e w' ⟨rfl, rfl⟩) )
  go_ret2
  exact ⟨ret2 (by omega) rfl, Below.refl _ _⟩
set_option maxRecDepth 100000 in
theorem rsign_c6 (s : ByteArray) (w : World) (hs0 : 0 < s.size) (B0 B1 B2 B3 : Nat) (e0 : bt (bl s) 0 = B0) (e1 : bt (bl s) 1 = B1) (e2 : bt (bl s) 2 = B2) (e3 : bt (bl s) 3 = B3) (c0 : 224 ≤ B0) (c1 : B0 ≤ 239) (m : 2 < s.size) (t1 : B1 < 128 ∨ 191 < B1) :
    Calls Tryd.prog 35 #[.string s] w fun e w' => e = .returned (.tuple #[.int .i64 (sg (bl s)).1, .int .i64 (sg (bl s)).2]) ∧ Below w.heap.size w w' := by
  have k0 := bt_lt (bl s) 0
  have k1 := bt_lt (bl s) 1
  have k2 := bt_lt (bl s) 2
  have k3 := bt_lt (bl s) 3
  have R : sg (bl s) = (1114112 + B0, 1) := by
    unfold sg
    rw [bl_len, e0, e1, e2, e3]
    rw [e0] at k0
    exact eqB (by omega) (by omega) (by omega) (by omega) (by omega)
  rw [R]
  clear R
  have f0 := (bl_at hs0).trans e0
  have f1 := (bl_at (s := s) (k := 1) (by omega)).trans e1
  have f2 := (bl_at (s := s) (k := 2) (by omega)).trans e2
  have T1 := fun W => tail_no B1 W t1
  rw [e0] at k0
  rw [e1] at k1
  rw [e2] at k2
  rw [e3] at k3
  clear e0 e1 e2 e3
  go_enter Tryd.func35, Tryd.ntmps35
  go_wp2_with (first | (go_at_call 46; (with_reducible refine (T1 _).mono ?_); rintro e w' ⟨rfl, rfl⟩) )
  go_ret2
  exact ⟨ret2 (by omega) rfl, Below.refl _ _⟩
set_option maxRecDepth 100000 in
theorem rsign_c7 (s : ByteArray) (w : World) (hs0 : 0 < s.size) (B0 B1 B2 B3 : Nat) (e0 : bt (bl s) 0 = B0) (e1 : bt (bl s) 1 = B1) (e2 : bt (bl s) 2 = B2) (e3 : bt (bl s) 3 = B3) (c0 : 224 ≤ B0) (c1 : B0 ≤ 239) (m : s.size ≤ 2) :
    Calls Tryd.prog 35 #[.string s] w fun e w' => e = .returned (.tuple #[.int .i64 (sg (bl s)).1, .int .i64 (sg (bl s)).2]) ∧ Below w.heap.size w w' := by
  have k0 := bt_lt (bl s) 0
  have k1 := bt_lt (bl s) 1
  have k2 := bt_lt (bl s) 2
  have k3 := bt_lt (bl s) 3
  have R : sg (bl s) = (1114112 + B0, 1) := by
    unfold sg
    rw [bl_len, e0, e1, e2, e3]
    rw [e0] at k0
    exact eqB (by omega) (by omega) (by omega) (by omega) (by omega)
  rw [R]
  clear R
  have f0 := (bl_at hs0).trans e0
  rw [e0] at k0
  rw [e1] at k1
  rw [e2] at k2
  rw [e3] at k3
  clear e0 e1 e2 e3
  go_enter Tryd.func35, Tryd.ntmps35
  go_wp2
  go_ret2
  exact ⟨ret2 (by omega) rfl, Below.refl _ _⟩
set_option maxRecDepth 100000 in
theorem rsign_d1 (s : ByteArray) (w : World) (hs0 : 0 < s.size) (B0 B1 B2 B3 : Nat) (e0 : bt (bl s) 0 = B0) (e1 : bt (bl s) 1 = B1) (e2 : bt (bl s) 2 = B2) (e3 : bt (bl s) 3 = B3) (c0 : 240 ≤ B0) (c1 : B0 ≤ 244) (m : 3 < s.size) (t1 : 128 ≤ B1) (u1 : B1 ≤ 191) (t2 : 128 ≤ B2) (u2 : B2 ≤ 191) (t3 : 128 ≤ B3) (u3 : B3 ≤ 191) (hv : 65536 ≤ (B0 - 240) * 262144 + (B1 - 128) * 4096 + (B2 - 128) * 64 + B3 - 128) (hs : (B0 - 240) * 262144 + (B1 - 128) * 4096 + (B2 - 128) * 64 + B3 - 128 ≤ 1114111) :
    Calls Tryd.prog 35 #[.string s] w fun e w' => e = .returned (.tuple #[.int .i64 (sg (bl s)).1, .int .i64 (sg (bl s)).2]) ∧ Below w.heap.size w w' := by
  have k0 := bt_lt (bl s) 0
  have k1 := bt_lt (bl s) 1
  have k2 := bt_lt (bl s) 2
  have k3 := bt_lt (bl s) 3
  have R : sg (bl s) = ((B0 - 240) * 262144 + (B1 - 128) * 4096 + (B2 - 128) * 64 + B3 - 128, 4) := by
    unfold sg
    rw [bl_len, e0, e1, e2, e3]
    rw [e0] at k0
    exact eq4 c0 c1 m t1 u1 t2 u2 t3 u3 hv hs
  rw [R]
  clear R
  have f0 := (bl_at hs0).trans e0
  have f1 := (bl_at (s := s) (k := 1) (by omega)).trans e1
  have f2 := (bl_at (s := s) (k := 2) (by omega)).trans e2
  have f3 := (bl_at (s := s) (k := 3) (by omega)).trans e3
  have T1 := fun W => tail_yes B1 W t1 u1
  have T2 := fun W => tail_yes B2 W t2 u2
  have T3 := fun W => tail_yes B3 W t3 u3
  rw [e0] at k0
  rw [e1] at k1
  rw [e2] at k2
  rw [e3] at k3
  clear e0 e1 e2 e3
  go_enter Tryd.func35, Tryd.ntmps35
  go_wp2_with (first | (go_at_call 46; (with_reducible refine (T1 _).mono ?_); rintro e w' ⟨rfl, rfl⟩) | (go_at_call 46; (with_reducible refine (T2 _).mono ?_); rintro e w' ⟨rfl, rfl⟩) | (go_at_call 46; (with_reducible refine (T3 _).mono ?_); rintro e w' ⟨rfl, rfl⟩) )
  go_region
  all_goals (try go_wp2)
  all_goals go_ret2
  all_goals exact ⟨ret2 (by omega) rfl, (Below.refl _ _).drew⟩
set_option maxRecDepth 100000 in
theorem rsign_d2 (s : ByteArray) (w : World) (hs0 : 0 < s.size) (B0 B1 B2 B3 : Nat) (e0 : bt (bl s) 0 = B0) (e1 : bt (bl s) 1 = B1) (e2 : bt (bl s) 2 = B2) (e3 : bt (bl s) 3 = B3) (c0 : 240 ≤ B0) (c1 : B0 ≤ 244) (m : 3 < s.size) (t1 : 128 ≤ B1) (u1 : B1 ≤ 191) (t2 : 128 ≤ B2) (u2 : B2 ≤ 191) (t3 : 128 ≤ B3) (u3 : B3 ≤ 191) (hv : (B0 - 240) * 262144 + (B1 - 128) * 4096 + (B2 - 128) * 64 + B3 - 128 < 65536) :
    Calls Tryd.prog 35 #[.string s] w fun e w' => e = .returned (.tuple #[.int .i64 (sg (bl s)).1, .int .i64 (sg (bl s)).2]) ∧ Below w.heap.size w w' := by
  have k0 := bt_lt (bl s) 0
  have k1 := bt_lt (bl s) 1
  have k2 := bt_lt (bl s) 2
  have k3 := bt_lt (bl s) 3
  have R : sg (bl s) = (1114112 + B0, 1) := by
    unfold sg
    rw [bl_len, e0, e1, e2, e3]
    rw [e0] at k0
    exact eqB (by omega) (by omega) (by omega) (by omega) (by omega)
  rw [R]
  clear R
  have f0 := (bl_at hs0).trans e0
  have f1 := (bl_at (s := s) (k := 1) (by omega)).trans e1
  have f2 := (bl_at (s := s) (k := 2) (by omega)).trans e2
  have f3 := (bl_at (s := s) (k := 3) (by omega)).trans e3
  have T1 := fun W => tail_yes B1 W t1 u1
  have T2 := fun W => tail_yes B2 W t2 u2
  have T3 := fun W => tail_yes B3 W t3 u3
  rw [e0] at k0
  rw [e1] at k1
  rw [e2] at k2
  rw [e3] at k3
  clear e0 e1 e2 e3
  go_enter Tryd.func35, Tryd.ntmps35
  go_wp2_with (first | (go_at_call 46; (with_reducible refine (T1 _).mono ?_); rintro e w' ⟨rfl, rfl⟩) | (go_at_call 46; (with_reducible refine (T2 _).mono ?_); rintro e w' ⟨rfl, rfl⟩) | (go_at_call 46; (with_reducible refine (T3 _).mono ?_); rintro e w' ⟨rfl, rfl⟩) )
  go_region
  all_goals (try go_wp2)
  all_goals go_ret2
  all_goals exact ⟨ret2 (by omega) rfl, (Below.refl _ _).drew⟩
set_option maxRecDepth 100000 in
theorem rsign_d3 (s : ByteArray) (w : World) (hs0 : 0 < s.size) (B0 B1 B2 B3 : Nat) (e0 : bt (bl s) 0 = B0) (e1 : bt (bl s) 1 = B1) (e2 : bt (bl s) 2 = B2) (e3 : bt (bl s) 3 = B3) (c0 : 240 ≤ B0) (c1 : B0 ≤ 244) (m : 3 < s.size) (t1 : 128 ≤ B1) (u1 : B1 ≤ 191) (t2 : 128 ≤ B2) (u2 : B2 ≤ 191) (t3 : 128 ≤ B3) (u3 : B3 ≤ 191) (hv : 1114111 < (B0 - 240) * 262144 + (B1 - 128) * 4096 + (B2 - 128) * 64 + B3 - 128) :
    Calls Tryd.prog 35 #[.string s] w fun e w' => e = .returned (.tuple #[.int .i64 (sg (bl s)).1, .int .i64 (sg (bl s)).2]) ∧ Below w.heap.size w w' := by
  have k0 := bt_lt (bl s) 0
  have k1 := bt_lt (bl s) 1
  have k2 := bt_lt (bl s) 2
  have k3 := bt_lt (bl s) 3
  have R : sg (bl s) = (1114112 + B0, 1) := by
    unfold sg
    rw [bl_len, e0, e1, e2, e3]
    rw [e0] at k0
    exact eqB (by omega) (by omega) (by omega) (by omega) (by omega)
  rw [R]
  clear R
  have f0 := (bl_at hs0).trans e0
  have f1 := (bl_at (s := s) (k := 1) (by omega)).trans e1
  have f2 := (bl_at (s := s) (k := 2) (by omega)).trans e2
  have f3 := (bl_at (s := s) (k := 3) (by omega)).trans e3
  have T1 := fun W => tail_yes B1 W t1 u1
  have T2 := fun W => tail_yes B2 W t2 u2
  have T3 := fun W => tail_yes B3 W t3 u3
  rw [e0] at k0
  rw [e1] at k1
  rw [e2] at k2
  rw [e3] at k3
  clear e0 e1 e2 e3
  go_enter Tryd.func35, Tryd.ntmps35
  go_wp2_with (first | (go_at_call 46; (with_reducible refine (T1 _).mono ?_); rintro e w' ⟨rfl, rfl⟩) | (go_at_call 46; (with_reducible refine (T2 _).mono ?_); rintro e w' ⟨rfl, rfl⟩) | (go_at_call 46; (with_reducible refine (T3 _).mono ?_); rintro e w' ⟨rfl, rfl⟩) )
  go_region
  all_goals (try go_wp2)
  all_goals go_ret2
  all_goals exact ⟨ret2 (by omega) rfl, (Below.refl _ _).drew⟩
set_option maxRecDepth 100000 in
theorem rsign_d4 (s : ByteArray) (w : World) (hs0 : 0 < s.size) (B0 B1 B2 B3 : Nat) (e0 : bt (bl s) 0 = B0) (e1 : bt (bl s) 1 = B1) (e2 : bt (bl s) 2 = B2) (e3 : bt (bl s) 3 = B3) (c0 : 240 ≤ B0) (c1 : B0 ≤ 244) (m : 3 < s.size) (t1 : 128 ≤ B1) (u1 : B1 ≤ 191) (t2 : 128 ≤ B2) (u2 : B2 ≤ 191) (t3 : B3 < 128 ∨ 191 < B3) :
    Calls Tryd.prog 35 #[.string s] w fun e w' => e = .returned (.tuple #[.int .i64 (sg (bl s)).1, .int .i64 (sg (bl s)).2]) ∧ Below w.heap.size w w' := by
  have k0 := bt_lt (bl s) 0
  have k1 := bt_lt (bl s) 1
  have k2 := bt_lt (bl s) 2
  have k3 := bt_lt (bl s) 3
  have R : sg (bl s) = (1114112 + B0, 1) := by
    unfold sg
    rw [bl_len, e0, e1, e2, e3]
    rw [e0] at k0
    exact eqB (by omega) (by omega) (by omega) (by omega) (by omega)
  rw [R]
  clear R
  have f0 := (bl_at hs0).trans e0
  have f1 := (bl_at (s := s) (k := 1) (by omega)).trans e1
  have f2 := (bl_at (s := s) (k := 2) (by omega)).trans e2
  have f3 := (bl_at (s := s) (k := 3) (by omega)).trans e3
  have T1 := fun W => tail_yes B1 W t1 u1
  have T2 := fun W => tail_yes B2 W t2 u2
  have T3 := fun W => tail_no B3 W t3
  rw [e0] at k0
  rw [e1] at k1
  rw [e2] at k2
  rw [e3] at k3
  clear e0 e1 e2 e3
  go_enter Tryd.func35, Tryd.ntmps35
  go_wp2_with (first | (go_at_call 46; (with_reducible refine (T1 _).mono ?_); rintro e w' ⟨rfl, rfl⟩) | (go_at_call 46; (with_reducible refine (T2 _).mono ?_); rintro e w' ⟨rfl, rfl⟩) | (go_at_call 46; (with_reducible refine (T3 _).mono ?_); rintro e w' ⟨rfl, rfl⟩) )
  go_ret2
  exact ⟨ret2 (by omega) rfl, Below.refl _ _⟩
set_option maxRecDepth 100000 in
theorem rsign_d5 (s : ByteArray) (w : World) (hs0 : 0 < s.size) (B0 B1 B2 B3 : Nat) (e0 : bt (bl s) 0 = B0) (e1 : bt (bl s) 1 = B1) (e2 : bt (bl s) 2 = B2) (e3 : bt (bl s) 3 = B3) (c0 : 240 ≤ B0) (c1 : B0 ≤ 244) (m : 3 < s.size) (t1 : 128 ≤ B1) (u1 : B1 ≤ 191) (t2 : B2 < 128 ∨ 191 < B2) :
    Calls Tryd.prog 35 #[.string s] w fun e w' => e = .returned (.tuple #[.int .i64 (sg (bl s)).1, .int .i64 (sg (bl s)).2]) ∧ Below w.heap.size w w' := by
  have k0 := bt_lt (bl s) 0
  have k1 := bt_lt (bl s) 1
  have k2 := bt_lt (bl s) 2
  have k3 := bt_lt (bl s) 3
  have R : sg (bl s) = (1114112 + B0, 1) := by
    unfold sg
    rw [bl_len, e0, e1, e2, e3]
    rw [e0] at k0
    exact eqB (by omega) (by omega) (by omega) (by omega) (by omega)
  rw [R]
  clear R
  have f0 := (bl_at hs0).trans e0
  have f1 := (bl_at (s := s) (k := 1) (by omega)).trans e1
  have f2 := (bl_at (s := s) (k := 2) (by omega)).trans e2
  have f3 := (bl_at (s := s) (k := 3) (by omega)).trans e3
  have T1 := fun W => tail_yes B1 W t1 u1
  have T2 := fun W => tail_no B2 W t2
  rw [e0] at k0
  rw [e1] at k1
  rw [e2] at k2
  rw [e3] at k3
  clear e0 e1 e2 e3
  go_enter Tryd.func35, Tryd.ntmps35
  go_wp2_with (first | (go_at_call 46; (with_reducible refine (T1 _).mono ?_); rintro e w' ⟨rfl, rfl⟩) | (go_at_call 46; (with_reducible refine (T2 _).mono ?_); rintro e w' ⟨rfl, rfl⟩) )
  go_ret2
  exact ⟨ret2 (by omega) rfl, Below.refl _ _⟩
set_option maxRecDepth 100000 in
theorem rsign_d6 (s : ByteArray) (w : World) (hs0 : 0 < s.size) (B0 B1 B2 B3 : Nat) (e0 : bt (bl s) 0 = B0) (e1 : bt (bl s) 1 = B1) (e2 : bt (bl s) 2 = B2) (e3 : bt (bl s) 3 = B3) (c0 : 240 ≤ B0) (c1 : B0 ≤ 244) (m : 3 < s.size) (t1 : B1 < 128 ∨ 191 < B1) :
    Calls Tryd.prog 35 #[.string s] w fun e w' => e = .returned (.tuple #[.int .i64 (sg (bl s)).1, .int .i64 (sg (bl s)).2]) ∧ Below w.heap.size w w' := by
  have k0 := bt_lt (bl s) 0
  have k1 := bt_lt (bl s) 1
  have k2 := bt_lt (bl s) 2
  have k3 := bt_lt (bl s) 3
  have R : sg (bl s) = (1114112 + B0, 1) := by
    unfold sg
    rw [bl_len, e0, e1, e2, e3]
    rw [e0] at k0
    exact eqB (by omega) (by omega) (by omega) (by omega) (by omega)
  rw [R]
  clear R
  have f0 := (bl_at hs0).trans e0
  have f1 := (bl_at (s := s) (k := 1) (by omega)).trans e1
  have f2 := (bl_at (s := s) (k := 2) (by omega)).trans e2
  have f3 := (bl_at (s := s) (k := 3) (by omega)).trans e3
  have T1 := fun W => tail_no B1 W t1
  rw [e0] at k0
  rw [e1] at k1
  rw [e2] at k2
  rw [e3] at k3
  clear e0 e1 e2 e3
  go_enter Tryd.func35, Tryd.ntmps35
  go_wp2_with (first | (go_at_call 46; (with_reducible refine (T1 _).mono ?_); rintro e w' ⟨rfl, rfl⟩) )
  go_ret2
  exact ⟨ret2 (by omega) rfl, Below.refl _ _⟩
set_option maxRecDepth 100000 in
theorem rsign_d7 (s : ByteArray) (w : World) (hs0 : 0 < s.size) (B0 B1 B2 B3 : Nat) (e0 : bt (bl s) 0 = B0) (e1 : bt (bl s) 1 = B1) (e2 : bt (bl s) 2 = B2) (e3 : bt (bl s) 3 = B3) (c0 : 240 ≤ B0) (c1 : B0 ≤ 244) (m : s.size ≤ 3) :
    Calls Tryd.prog 35 #[.string s] w fun e w' => e = .returned (.tuple #[.int .i64 (sg (bl s)).1, .int .i64 (sg (bl s)).2]) ∧ Below w.heap.size w w' := by
  have k0 := bt_lt (bl s) 0
  have k1 := bt_lt (bl s) 1
  have k2 := bt_lt (bl s) 2
  have k3 := bt_lt (bl s) 3
  have R : sg (bl s) = (1114112 + B0, 1) := by
    unfold sg
    rw [bl_len, e0, e1, e2, e3]
    rw [e0] at k0
    exact eqB (by omega) (by omega) (by omega) (by omega) (by omega)
  rw [R]
  clear R
  have f0 := (bl_at hs0).trans e0
  rw [e0] at k0
  rw [e1] at k1
  rw [e2] at k2
  rw [e3] at k3
  clear e0 e1 e2 e3
  go_enter Tryd.func35, Tryd.ntmps35
  go_wp2
  go_ret2
  exact ⟨ret2 (by omega) rfl, Below.refl _ _⟩
end Go.Proofs.YtmpnblibbcocpaaDoor
