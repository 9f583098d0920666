/- The contracts of package logic, val.Bool, val.Null and of the document's answer for layer 12: what each of these functions returns, for every argument; no condition. -/
import Derived.Test.YtcokkmjfdnigpaaRows
import Derived.WalkKit
import Derived.ProofKit
import Derived.OpenShut
import Derived.Outline
import Derived.WalkLawsBesides
import Derived.BigQuiet
import Derived.Lib.QuietBelow
import Derived.Lib.Hide
namespace Go.Proofs.Ytcokkmjfdnigpaa
open Go.ChangeShapes Go.WideShapes Go.ChangeAt Go.RowKit Go.Sort

def b2t (b : Bool) : Int := if b then 1 else 0
/-- a truth's value: kind and number -/
abbrev tv (k n : Int) : Value := .agg #[.int .i64 k, .int .i64 n, .string { data := #[] }]
abbrev gv (k n : Int) (s : ByteArray) : Value := .agg #[.int .i64 k, .int .i64 n, .string s]

theorem bcell {W w1 : World} (hb : Below W.heap.size W w1) : (∀ b o, b < W.heap.size → w1.cell? ⟨b, o, none⟩ = W.cell? ⟨b, o, none⟩) ∧ (∀ b o, b < W.heap.size → w1.frozen? ⟨b, o, none⟩ = W.frozen? ⟨b, o, none⟩) :=
  ⟨fun b o h => hb.cell (p := ⟨b, o, none⟩) h, fun b o h => hb.frozen (p := ⟨b, o, none⟩) h⟩

theorem b3 {B : Nat} {a w : World} (h : Below B a w) {b : Nat} (hb : B ≤ b) (x y z : Value) :
    Below B a (((w.setCell ⟨b, 0, none⟩ x).setCell ⟨b, 1, none⟩ y).setCell ⟨b, 2, none⟩ z) := ((h.setCell hb x).setCell hb y).setCell hb z
theorem bafter {w w' : World} {o : Obj} (hb : Below (w.alloc o).heap.size (w.alloc o) w') : Below w.heap.size w w' :=
  ((Below.refl _ _).alloc (Nat.le_refl _) _).trans (hb.mono (by simp))
theorem bafter2 {w w' : World} {o o2 : Obj} (hb : Below ((w.alloc o).alloc o2).heap.size ((w.alloc o).alloc o2) w') : Below w.heap.size w w' :=
  (((Below.refl _ _).alloc (Nat.le_refl _) _).alloc (by simp) _).trans (hb.mono (by simp; omega))
theorem bafter3 {w w' : World} {o o2 o3 : Obj} (hb : Below (((w.alloc o).alloc o2).alloc o3).heap.size (((w.alloc o).alloc o2).alloc o3) w') : Below w.heap.size w w' :=
  ((((Below.refl _ _).alloc (Nat.le_refl _) _).alloc (by simp) _).alloc (by simp; omega) _).trans (hb.mono (by simp; omega))
theorem balloc (w : World) (o : Obj) : Below w.heap.size w (w.alloc o) := (Below.refl _ _).alloc (Nat.le_refl _) _
theorem balloc2 (w : World) (o o2 : Obj) : Below w.heap.size w ((w.alloc o).alloc o2) := (balloc w o).alloc (by simp) _
/-- the world of a region, under one name -/
theorem wp_world {P : Program} {c : Code} {Q : Exit → Act → World → Prop} {a : Act} {w : World} (h : ∀ W, W = w → c.wp P Q a W) : c.wp P Q a w := h w rfl

theorem bool_any (b : Bool) (w : World) : Calls Try.prog 13 #[.bool b] w fun e w' => e = .returned (tv 1 (b2t b)) ∧ Below w.heap.size w w' := by
  cases b
  · go_enter Try.func13, Try.ntmps13
    go_wp2
    exact bodyPost_ret (v := tv 1 0) (by simp [results, Try.results13, go_sem]) rfl ⟨rfl, ((Below.refl _ _).alloc (Nat.le_refl _) _).alloc (by simp) _⟩
  · go_enter Try.func13, Try.ntmps13
    go_wp2
    exact bodyPost_ret (v := tv 1 1) (by simp [results, Try.results13, go_sem]) rfl ⟨rfl, ((Below.refl _ _).alloc (Nat.le_refl _) _).alloc (by simp) _⟩

theorem rbool_any (b : Bool) (w : World) : Calls Try.prog 16 #[.bool b] w fun e w' => e = .returned (tv 1 (b2t b)) ∧ Below w.heap.size w w' := by
  cases b
  · go_enter Try.func16, Try.ntmps16
    go_wp2
    exact bodyPost_ret (v := tv 1 0) (by simp [results, Try.results16, go_sem]) rfl ⟨rfl, ((Below.refl _ _).alloc (Nat.le_refl _) _)⟩
  · go_enter Try.func16, Try.ntmps16
    go_wp2
    exact bodyPost_ret (v := tv 1 1) (by simp [results, Try.results16, go_sem]) rfl ⟨rfl, ((Below.refl _ _).alloc (Nat.le_refl _) _)⟩

theorem null_any (w : World) : Calls Try.prog 14 #[] w fun e w' => e = .returned (tv 0 0) ∧ Below w.heap.size w w' := by
  go_enter Try.func14, Try.ntmps14
  go_wp2
  exact bodyPost_ret (v := tv 0 0) (by simp [results, Try.results14, go_sem]) rfl ⟨rfl, ((Below.refl _ _).alloc (Nat.le_refl _) _)⟩

theorem same_any (k n k' n' : Int) (w : World) : Calls Try.prog 5 #[tv k n, tv k' n'] w fun e w' => e = .returned (.bool (k == k' && n == n')) ∧ Below w.heap.size w w' := by
  by_cases h1 : k = k'
  · subst h1
    by_cases h2 : n = n'
    · subst h2
      go_enter Try.func5, Try.ntmps5
      go_wp2
      go_ret
      exact ⟨by simp, ((Below.refl _ _).alloc (Nat.le_refl _) _).alloc (by simp) _⟩
    · have h2' : (n == n') = false := by simpa using h2
      go_enter Try.func5, Try.ntmps5
      go_wp2
      go_ret
      exact ⟨by simp [h2'], ((Below.refl _ _).alloc (Nat.le_refl _) _).alloc (by simp) _⟩
  · have h1' : (k == k') = false := by simpa using h1
    go_enter Try.func5, Try.ntmps5
    go_wp2
    go_ret
    exact ⟨by simp [h1'], ((Below.refl _ _).alloc (Nat.le_refl _) _).alloc (by simp) _⟩


theorem ok_any (n : Int) (s : ByteArray) (w : World) : Calls Try.prog 19 #[gv 1 n s] w fun e w' => e = .returned (.bool ((n == 0 || n == 1) && s.toList.isEmpty)) ∧ Below w.heap.size w w' := by
  by_cases h0 : n = 0
  · subst h0
    go_enter Try.func19, Try.ntmps19
    go_wp2
    go_ret
    exact ⟨by simp, ((Below.refl _ _).alloc (Nat.le_refl _) _)⟩
  · have h0' : (n == 0) = false := by simpa using h0
    by_cases h1 : n = 1
    · subst h1
      go_enter Try.func19, Try.ntmps19
      go_wp2
      go_ret
      exact ⟨by simp, ((Below.refl _ _).alloc (Nat.le_refl _) _)⟩
    · have h1' : (n == 1) = false := by simpa using h1
      go_enter Try.func19, Try.ntmps19
      go_wp2
      go_ret
      exact ⟨by simp [h0', h1'], ((Below.refl _ _).alloc (Nat.le_refl _) _)⟩

/-- what a value is as a truth: 0 no, 1 yes, 2 neither -/
def okB (n : Int) (s : ByteArray) : Bool := (n == 0 || n == 1) && s.toList.isEmpty
def tr (k n : Int) (s : ByteArray) : Int := if k = 1 ∧ okB n s = true then n else 2
theorem tr_mem (k n : Int) (s : ByteArray) : tr k n s = 0 ∨ tr k n s = 1 ∨ tr k n s = 2 := by
  unfold tr
  by_cases h : k = 1 ∧ okB n s = true
  · rw [if_pos h]
    have := h.2
    unfold okB at this
    simp at this
    omega
  · rw [if_neg h]; omega

theorem truth_any (k n : Int) (s : ByteArray) (w : World) : Calls Try.prog 12 #[gv k n s] w fun e w' => e = .returned (.int .i64 (tr k n s)) ∧ Below w.heap.size w w' := by
  by_cases hk : k = 1
  · subst hk
    have C : ∀ W : World, Calls Try.prog 19 #[gv 1 n s] W fun e w' => e = .returned (.bool (okB n s)) ∧ Below W.heap.size W w' := fun W => ok_any n s W
    cases hb : okB n s
    · have ht : tr 1 n s = 2 := by unfold tr; rw [if_neg (by simp [hb])]
      rw [hb] at C
      rw [ht]
      clear hb ht
      go_enter Try.func12, Try.ntmps12
      go_wp2_with (go_at_call 19; refine (C _).mono ?_; rintro e w' ⟨rfl, hb⟩)
      go_ret
      exact ⟨rfl, ((Below.refl _ _).alloc (Nat.le_refl _) _).trans (hb.mono (by simp))⟩
    · have ht : tr 1 n s = n := by unfold tr; rw [if_pos (by simp [hb])]
      rw [hb] at C
      rw [ht]
      clear hb ht
      go_enter Try.func12, Try.ntmps12
      go_wp2_with (go_at_call 19; refine (C _).mono ?_; rintro e w' ⟨rfl, hb⟩; have hc := hb.cell (p := ⟨w.heap.size, 1, none⟩) (by simp))
      go_ret
      exact ⟨rfl, ((Below.refl _ _).alloc (Nat.le_refl _) _).trans (hb.mono (by simp))⟩
  · have hk' : (k == 1) = false := by simpa using hk
    have ht : tr k n s = 2 := by unfold tr; rw [if_neg (by simp [hk])]
    rw [ht]
    clear ht
    have hk2 : (k != 1) = true := by simpa using hk
    go_enter Try.func12, Try.ntmps12
    go_wp2
    go_ret
    exact ⟨rfl, ((Below.refl _ _).alloc (Nat.le_refl _) _)⟩

def vt (t : Int) : Value := if t = 2 then tv 0 0 else tv 1 t
theorem value_any (t : Int) (ht : t = 0 ∨ t = 1 ∨ t = 2) (w : World) : Calls Try.prog 15 #[.int .i64 t] w fun e w' => e = .returned (vt t) ∧ Below w.heap.size w w' := by
  rcases ht with rfl | rfl | rfl
  · go_enter Try.func15, Try.ntmps15
    go_wp2_with (go_at_call 13; refine (bool_any false _).mono ?_; rintro e w' ⟨rfl, hb⟩; obtain ⟨hc, hf⟩ := bcell hb; have hz : w.heap.size < w'.heap.size := by have := hb.size; simp at this; omega)
    exact bodyPost_ret (v := tv 1 0) (by simp [results, Try.results15, go_sem, hc, b2t]) rfl ⟨rfl, b3 (bafter hb) (Nat.le_refl _) _ _ _⟩
  · go_enter Try.func15, Try.ntmps15
    go_wp2_with (go_at_call 13; refine (bool_any true _).mono ?_; rintro e w' ⟨rfl, hb⟩; obtain ⟨hc, hf⟩ := bcell hb; have hz : w.heap.size < w'.heap.size := by have := hb.size; simp at this; omega)
    exact bodyPost_ret (v := tv 1 1) (by simp [results, Try.results15, go_sem, hc, b2t]) rfl ⟨rfl, b3 (bafter hb) (Nat.le_refl _) _ _ _⟩
  · go_enter Try.func15, Try.ntmps15
    go_wp2_with (go_at_call 14; refine (null_any _).mono ?_; rintro e w' ⟨rfl, hb⟩; obtain ⟨hc, hf⟩ := bcell hb; have hz : w.heap.size < w'.heap.size := by have := hb.size; simp at this; omega)
    exact bodyPost_ret (v := tv 0 0) (by simp [results, Try.results15, go_sem, hc]) rfl ⟨rfl, b3 (bafter hb) (Nat.le_refl _) _ _ _⟩

/-- v is a value, and t what it is as a truth -/
def IsT (v : Value) (t : Int) : Prop := ∃ k n s, v = gv k n s ∧ tr k n s = t
theorem IsT.mem {v : Value} {t : Int} (h : IsT v t) : t = 0 ∨ t = 1 ∨ t = 2 := by
  obtain ⟨k, n, s, _, rfl⟩ := h
  exact tr_mem k n s
theorem isT_gv (k n : Int) (s : ByteArray) : IsT (gv k n s) (tr k n s) := ⟨k, n, s, rfl, rfl⟩
theorem isT_vt {t : Int} (h : t = 0 ∨ t = 1 ∨ t = 2) : IsT (vt t) t := by
  rcases h with rfl | rfl | rfl
  · exact ⟨1, 0, { data := #[] }, rfl, by decide +kernel⟩
  · exact ⟨1, 1, { data := #[] }, rfl, by decide +kernel⟩
  · exact ⟨0, 0, { data := #[] }, rfl, by decide +kernel⟩
def notT (t : Int) : Int := if t = 0 then 1 else if t = 1 then 0 else 2
def andT (t u : Int) : Int := if t = 1 ∧ u = 1 then 1 else if (t = 1 ∧ u = 2) ∨ (t = 2 ∧ u = 1) ∨ (t = 2 ∧ u = 2) then 2 else 0
def orT (t u : Int) : Int := notT (andT (notT t) (notT u))
theorem notT_mem (t : Int) : notT t = 0 ∨ notT t = 1 ∨ notT t = 2 := by unfold notT; split <;> (try split) <;> simp
theorem andT_mem (t u : Int) : andT t u = 0 ∨ andT t u = 1 ∨ andT t u = 2 := by unfold andT; split <;> (try split) <;> simp

theorem not_any (v : Value) (t : Int) (h : IsT v t) (w : World) : Calls Try.prog 8 #[v] w fun e w' => e = .returned (vt (notT t)) ∧ Below w.heap.size w w' := by
  obtain ⟨k, n, s, rfl, ht⟩ := h
  have hm := tr_mem k n s
  rw [ht] at hm
  have C : ∀ W : World, Calls Try.prog 12 #[gv k n s] W fun e w' => e = .returned (.int .i64 t) ∧ Below W.heap.size W w' := fun W => by rw [← ht]; exact truth_any k n s W
  clear ht
  rcases hm with rfl | rfl | rfl
  · have i0 : ∀ w, (Instr.index 36 (.agg #[.int .i64 1, .int .i64 0, .int .i64 2]) (.int .i64 0)).run Try.prog w = .ok (.int .i64 1) w := fun _ => by kernel_rfl
    have V : ∀ W : World, Calls Try.prog 15 #[.int .i64 1] W fun e w' => e = .returned (tv 1 1) ∧ Below W.heap.size W w' := fun W => value_any 1 (by simp) W
    go_enter Try.func8, Try.ntmps8
    go_wp2_with (first | (go_at_call 12; refine (C _).mono ?_; rintro e w1 ⟨rfl, hb⟩) | (go_at_call 15; refine (V _).mono ?_; rintro e w2 ⟨rfl, hb2⟩; obtain ⟨hc, hf⟩ := bcell hb; obtain ⟨hc2, hf2⟩ := bcell hb2; have hz : w.heap.size + 1 < w1.heap.size := (by have := hb.size; simp at this; omega); have hz2 : w.heap.size + 1 < w2.heap.size := (by have := hb2.size; omega)))
    exact bodyPost_ret (v := tv 1 1) (by simp [results, Try.results8, go_sem, hc, hc2, hz]) rfl ⟨rfl, b3 ((bafter2 hb).trans (hb2.mono (by have := hb.size; simp at this; omega))) (by omega) _ _ _⟩
  · have i0 : ∀ w, (Instr.index 36 (.agg #[.int .i64 1, .int .i64 0, .int .i64 2]) (.int .i64 1)).run Try.prog w = .ok (.int .i64 0) w := fun _ => by kernel_rfl
    have V : ∀ W : World, Calls Try.prog 15 #[.int .i64 0] W fun e w' => e = .returned (tv 1 0) ∧ Below W.heap.size W w' := fun W => value_any 0 (by simp) W
    go_enter Try.func8, Try.ntmps8
    go_wp2_with (first | (go_at_call 12; refine (C _).mono ?_; rintro e w1 ⟨rfl, hb⟩) | (go_at_call 15; refine (V _).mono ?_; rintro e w2 ⟨rfl, hb2⟩; obtain ⟨hc, hf⟩ := bcell hb; obtain ⟨hc2, hf2⟩ := bcell hb2; have hz : w.heap.size + 1 < w1.heap.size := (by have := hb.size; simp at this; omega); have hz2 : w.heap.size + 1 < w2.heap.size := (by have := hb2.size; omega)))
    exact bodyPost_ret (v := tv 1 0) (by simp [results, Try.results8, go_sem, hc, hc2, hz]) rfl ⟨rfl, b3 ((bafter2 hb).trans (hb2.mono (by have := hb.size; simp at this; omega))) (by omega) _ _ _⟩
  · have i0 : ∀ w, (Instr.index 36 (.agg #[.int .i64 1, .int .i64 0, .int .i64 2]) (.int .i64 2)).run Try.prog w = .ok (.int .i64 2) w := fun _ => by kernel_rfl
    have V : ∀ W : World, Calls Try.prog 15 #[.int .i64 2] W fun e w' => e = .returned (tv 0 0) ∧ Below W.heap.size W w' := fun W => value_any 2 (by simp) W
    go_enter Try.func8, Try.ntmps8
    go_wp2_with (first | (go_at_call 12; refine (C _).mono ?_; rintro e w1 ⟨rfl, hb⟩) | (go_at_call 15; refine (V _).mono ?_; rintro e w2 ⟨rfl, hb2⟩; obtain ⟨hc, hf⟩ := bcell hb; obtain ⟨hc2, hf2⟩ := bcell hb2; have hz : w.heap.size + 1 < w1.heap.size := (by have := hb.size; simp at this; omega); have hz2 : w.heap.size + 1 < w2.heap.size := (by have := hb2.size; omega)))
    exact bodyPost_ret (v := tv 0 0) (by simp [results, Try.results8, go_sem, hc, hc2, hz]) rfl ⟨rfl, b3 ((bafter2 hb).trans (hb2.mono (by have := hb.size; simp at this; omega))) (by omega) _ _ _⟩
end Go.Proofs.Ytcokkmjfdnigpaa
