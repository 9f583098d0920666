
/- ElemMakes is true of every input: the walk, where the listed variables stand. -/
import Derived.Test.YtbghbfgbpdppeaaDoorElemR
import Derived.Test.YtbghbfgbpdppeaaDoorElemT
import Derived.Test.YtbghbfgbpdppeaaDoorElemL
import Derived.Test.YtbghbfgbpdppeaaDoorElemH
import Derived.Test.YtbghbfgbpdppeaaDoorTextG
import Derived.Lib.QuietBelow
namespace Go.Proofs.YtbghbfgbpdppeaaDoor
open Go.ChangeShapes Go.WideShapes Go.ChangeAt Go.RowKit
set_option linter.unusedVariables false

theorem Code.wp_world {P : Program} {c : Code} {Q : Exit → Act → World → Prop} {a : Act} {w : World} (h : ∀ W, W = w → c.wp P Q a W) : c.wp P Q a w := h w rfl

set_option maxHeartbeats 1000000 in
set_option maxRecDepth 100000 in
theorem makesI (p s t x : Int) (v k : Bool) (T : ByteArray) (w : World) (p0 : 0 ≤ p) (p1 : p ≤ 65535) (s0 : 0 ≤ s) (s1 : s ≤ 255) (t0 : 0 ≤ t) (t1 : t ≤ 127)
    (M : Hid (∀ W, Calls Tryd.prog 23 #[.int .i64 p, .int .i64 s, .int .i64 t, .bool v] W fun e w' => e = .returned (.tuple #[.int .u32 x, .int .i64 0]) ∧ W = w'))
    (D : Hid (∀ W, Calls Tryd.prog 21 #[ev p s t v] W fun e w' => e = .returned (.int .u32 x) ∧ Below W.heap.size W w'))
    (G1 : Hid (∀ W, Calls Tryd.prog 24 #[.int .u32 x, .int .i64 1] W fun e w' => e = .returned (.int .i64 p) ∧ Below W.heap.size W w'))
    (G2 : Hid (∀ W, Calls Tryd.prog 24 #[.int .u32 x, .int .i64 2] W fun e w' => e = .returned (.int .i64 s) ∧ Below W.heap.size W w'))
    (G3 : Hid (∀ W, Calls Tryd.prog 24 #[.int .u32 x, .int .i64 3] W fun e w' => e = .returned (.int .i64 t) ∧ Below W.heap.size W w'))
    (V : Hid (∀ W, Calls Tryd.prog 25 #[.int .u32 x] W fun e w' => e = .returned (.bool v) ∧ Below W.heap.size W w'))
    (K1 : Hid (∀ W, Calls Tryd.prog 26 #[.int .u32 x] W fun e w' => e = .returned (.bool k) ∧ Below W.heap.size W w'))
    (K2 : Hid (∀ W, Calls Tryd.prog 27 #[ev p s t v] W fun e w' => e = .returned (.bool k) ∧ Below W.heap.size W w'))
    (T1 : Hid (∀ W, Below w.heap.size w W → Calls Tryd.prog 28 #[.int .u32 x] W fun e w' => e = .returned (.string T) ∧ Below W.heap.size W w'))
    (T2 : Hid (∀ W, Calls Tryd.prog 29 #[ev p s t v] W fun e w' => e = .returned (.string T) ∧ Below W.heap.size W w'))
    (K : Hid (∀ W, Below w.heap.size w W → Calls Tryd.prog 22 #[] W fun e w' => e = .returned (.bool true) ∧ Below W.heap.size W w')) :
    Calls Tryd.prog 7 #[.int .i64 p, .int .i64 s, .int .i64 t, .bool v] w fun e w' => e = .returned (.bool true) ∧ Below w.heap.size w w' := by
  go_enter Tryd.func7, Tryd.ntmps7
  go_wp2_with (first
    | (go_at_call 23; (with_reducible refine (M.out _).mono ?_); rintro e w' ⟨rfl, rfl⟩))
  refine Code.wp_world (fun W hW => ?_)
  have hb : Below w.heap.size w W := by rw [hW]; exact (Below.refl _ _).alloc (Nat.le_refl _) _
  have c0 : W.cell? ⟨w.heap.size, 0, none⟩ = some (.int .i64 p) := by rw [hW]; simp
  have c1 : W.cell? ⟨w.heap.size, 1, none⟩ = some (.int .i64 s) := by rw [hW]; simp
  have c2 : W.cell? ⟨w.heap.size, 2, none⟩ = some (.int .i64 t) := by rw [hW]; simp
  have c3 : W.cell? ⟨w.heap.size, 3, none⟩ = some (.bool v) := by rw [hW]; simp
  clear hW
  replace c0 := cell_regrown c0
  replace c1 := cell_regrown c1
  replace c2 := cell_regrown c2
  replace c3 := cell_regrown c3
  have hbr := fun d os => hb.trans ((below_regrown W d os).mono hb.size)
  refine wp_region_quiet_below (by kernel_rfl) (by kernel_rfl) ?_
  repeat (quiet_step (first
    | (with_reducible exact Calls.regrown_of (D.out _))
    | (with_reducible exact Calls.regrown_of (K2.out _))
    | (with_reducible exact Calls.regrown_of (T1.out _ (hbr _ _)))
    | (with_reducible exact Calls.regrown_of (T2.out _))
    | (with_reducible exact Calls.regrown_of (G1.out _))
    | (with_reducible exact Calls.regrown_of (G2.out _))
    | (with_reducible exact Calls.regrown_of (G3.out _))
    | (with_reducible exact Calls.regrown_of (V.out _))
    | (with_reducible exact Calls.regrown_of (K1.out _))
    | (with_reducible exact Calls.regrown_of (K.out _ (hbr _ _)))))
  refine wpQuiet_nil ?_
  intro _ hw'
  obtain ⟨⟨dq, osq⟩, hw''⟩ := hw'
  subst hw''
  have hb1 := below_regrown W dq osq
  generalize Sort.grow (redrawn W dq) osq = w1 at *
  go_wp2
  go_ret
  exact ⟨rfl, btr hb hb1⟩
/-- weights that do not fit -/
theorem makesB (p s t : Int) (v : Bool) (w : World) (bad : ¬ (0 ≤ p ∧ p ≤ 65535 ∧ 0 ≤ s ∧ s ≤ 255 ∧ 0 ≤ t ∧ t ≤ 127))
    (M : Hid (∀ W, Calls Tryd.prog 23 #[.int .i64 p, .int .i64 s, .int .i64 t, .bool v] W fun e w' => e = .returned (.tuple #[.int .u32 0, .int .i64 1]) ∧ W = w'))
    (K : Hid (∀ W, Below w.heap.size w W → Calls Tryd.prog 22 #[] W fun e w' => e = .returned (.bool true) ∧ Below W.heap.size W w')) :
    Calls Tryd.prog 7 #[.int .i64 p, .int .i64 s, .int .i64 t, .bool v] w fun e w' => e = .returned (.bool true) ∧ Below w.heap.size w w' := by
  have h : p < 0 ∨ (0 ≤ p ∧ ¬ p ≤ 65535) ∨ (0 ≤ p ∧ p ≤ 65535 ∧ s < 0) ∨ (0 ≤ p ∧ p ≤ 65535 ∧ 0 ≤ s ∧ ¬ s ≤ 255) ∨ (0 ≤ p ∧ p ≤ 65535 ∧ 0 ≤ s ∧ s ≤ 255 ∧ t < 0) ∨ (0 ≤ p ∧ p ≤ 65535 ∧ 0 ≤ s ∧ s ≤ 255 ∧ 0 ≤ t ∧ ¬ t ≤ 127) := by omega
  clear bad
  rcases h with a | ⟨a, b⟩ | ⟨a, b, c⟩ | ⟨a, b, c, d⟩ | ⟨a, b, c, d, e⟩ | ⟨a, b, c, d, e, f⟩
  all_goals
    go_enter Tryd.func7, Tryd.ntmps7
    go_wp2_with (first
      | (go_at_call 23; (with_reducible refine (M.out _).mono ?_); rintro e w' ⟨rfl, rfl⟩)
      | (go_at_call 22; (with_reducible refine (K.out _ (Below.refl _ _)).mono ?_); rintro e w3 ⟨rfl, hb3⟩))
    go_ret
    exact ⟨rfl, hb3⟩
  all_goals
    exfalso
    rename_i h _ _
    simp at h
    omega
theorem makes_bad (p s t : Int) (v : Bool) (bad : ¬ (0 ≤ p ∧ p ≤ 65535 ∧ 0 ≤ s ∧ s ≤ 255 ∧ 0 ≤ t ∧ t ≤ 127)) (W : World) :
    Calls Tryd.prog 23 #[.int .i64 p, .int .i64 s, .int .i64 t, .bool v] W fun e w' => e = .returned (.tuple #[.int .u32 0, .int .i64 1]) ∧ W = w' := by
  by_cases p0 : p < 0
  · exact makeI_lo0 p s t W v p0
  by_cases p1 : ¬ p ≤ 65535
  · exact makeI_hi0 p s t W v (by omega) p1
  have U1 := Lib.hid (fun W => with_1 0 p W (by decide))
  by_cases s0 : s < 0
  · exact makeI_lo1 p s t _ W (by omega) (by omega) v s0 U1
  by_cases s1 : ¬ s ≤ 255
  · exact makeI_hi1 p s t _ W (by omega) (by omega) v (by omega) s1 U1
  have U2 := Lib.hid (fun W => with_2 _ s W (mkW_lt (p := (p % 65536).toNat) (s := wS 0) (t := wT 0) (v := wV 0) (by omega) (by decide) (by decide)))
  by_cases t0 : t < 0
  · exact makeI_lo2 p s t _ _ W (by omega) (by omega) (by omega) (by omega) v t0 U1 U2
  · exact makeI_hi2 p s t _ _ W (by omega) (by omega) (by omega) (by omega) v (by omega) (by omega) U1 U2
theorem i64_of {a : Int} (h : (Lit.int .i64 a).wf = true) : -9223372036854775808 ≤ a ∧ a ≤ 9223372036854775807 := by
  simp [Lit.wf, IntKind.min, IntKind.max, IntKind.signed, IntKind.bits] at h
  omega
theorem walk_ElemMakes (a b c : Int) (v : Bool) (wa : (Lit.int .i64 a).wf = true) (wb : (Lit.int .i64 b).wf = true) (wc : (Lit.int .i64 c).wf = true) (w : World) (hT : TzT w) :
    Calls Tryd.prog 7 #[.int .i64 a, .int .i64 b, .int .i64 c, .bool v] w fun e w' => e = .returned (.bool true) ∧ Below w.heap.size w w' := by
  have K := Lib.hid (fun W (hb : Below w.heap.size w W) => awake_elem W (hT.below hb))
  by_cases bad : ¬ (0 ≤ a ∧ a ≤ 65535 ∧ 0 ≤ b ∧ b ≤ 255 ∧ 0 ≤ c ∧ c ≤ 127)
  · exact makesB a b c v w bad (Lib.hid (fun W => makes_bad a b c v bad W)) K
  have bad : 0 ≤ a ∧ a ≤ 65535 ∧ 0 ≤ b ∧ b ≤ 255 ∧ 0 ≤ c ∧ c ≤ 127 := by omega
  clear wa wb wc
  obtain ⟨a0, a1, b0, b1, c0, c1⟩ := bad
  obtain ⟨p, rfl⟩ : ∃ p : Nat, a = p := ⟨a.toNat, by omega⟩
  obtain ⟨s, rfl⟩ : ∃ p : Nat, b = p := ⟨b.toNat, by omega⟩
  obtain ⟨t, rfl⟩ : ∃ p : Nat, c = p := ⟨c.toNat, by omega⟩
  have hp : p < 65536 := by omega
  have hs : s < 256 := by omega
  have ht : t < 128 := by omega
  obtain ⟨e1, e2, e3, e4⟩ := mkW_parts (p := p) (v := v) hs ht
  have hx := mkW_lt (v := v) hp hs ht
  have q : ∀ {W w' : World} {e : Ending} {r : Value}, (e = .returned r ∧ W = w') → (e = .returned r ∧ Below W.heap.size W w') := fun h => ⟨h.1, h.2 ▸ Below.refl _ _⟩
  have G1 := fun W => weight_any (mkW p s t v) 1 W hx
  have G2 := fun W => weight_any (mkW p s t v) 2 W hx
  have G3 := fun W => weight_any (mkW p s t v) 3 W hx
  have V := fun W => variable_any (mkW p s t v) W hx
  have g1 : wtV (mkW p s t v) 1 = p := e1
  have g2 : wtV (mkW p s t v) 2 = s := e2
  have g3 : wtV (mkW p s t v) 3 = t := e3
  have K2 := fun W => rok_any (mkW p s t v) W
  have T2 := fun W => rtext_any (mkW p s t v) W hx
  rw [g1] at G1
  rw [g2] at G2
  rw [g3] at G3
  rw [e4] at V
  rw [e1, e2, e3, e4] at K2 T2
  exact makesI p s t (mkW p s t v : Nat) v (okW (mkW p s t v)) ⟨(txt (mkW p s t v)).toArray⟩ w a0 a1 b0 b1 c0 c1
    (Lib.hid (fun W => make_ok p s t v W hp hs ht)) (Lib.hid (fun W => word_any p s t v W hp hs ht))
    (Lib.hid (fun W => (G1 W).mono fun _ _ h => q h)) (Lib.hid (fun W => (G2 W).mono fun _ _ h => q h)) (Lib.hid (fun W => (G3 W).mono fun _ _ h => q h)) (Lib.hid (fun W => (V W).mono fun _ _ h => q h))
    (Lib.hid (fun W => (eok_any _ W hx).mono fun _ _ h => q h)) (Lib.hid K2) (Lib.hid (fun W hb => text_elem _ W hx (hT.below hb))) (Lib.hid T2) K
end Go.Proofs.YtbghbfgbpdppeaaDoor
