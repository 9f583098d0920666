
/- Values: what package val's and the document's small functions return (Null, Bool, Int, Text, Ok, Is, Clean), for every argument; no condition. -/
import Derived.Test.YtbghbfgbpdppeaaGreatDoorIntsQ
import Derived.BigQuiet
namespace Go.Proofs.YtbghbfgbpdppeaaGreatDoor
open Go.ChangeShapes Go.WideShapes Go.ChangeAt Go.RowKit
set_option linter.unusedVariables false

def b2t (b : Bool) : Int := if b then 1 else 0
abbrev tv (k n : Int) : Value := .agg #[.int .i64 k, .int .i64 n, .string { data := #[] }]
abbrev gv (k n : Int) (s : ByteArray) : Value := .agg #[.int .i64 k, .int .i64 n, .string s]

theorem bcell {W w1 : World} (hb : Below W.heap.size W w1) : (∀ b o, b < W.heap.size → w1.cell? ⟨b, o, none⟩ = W.cell? ⟨b, o, none⟩) ∧ (∀ b o, b < W.heap.size → w1.frozen? ⟨b, o, none⟩ = W.frozen? ⟨b, o, none⟩) :=
  ⟨fun b o h => hb.cell (p := ⟨b, o, none⟩) h, fun b o h => hb.frozen (p := ⟨b, o, none⟩) h⟩
theorem b3 {B : Nat} {a w : World} (h : Below B a w) {b : Nat} (hb : B ≤ b) (x y z : Value) :
    Below B a (((w.setCell ⟨b, 0, none⟩ x).setCell ⟨b, 1, none⟩ y).setCell ⟨b, 2, none⟩ z) := ((h.setCell hb x).setCell hb y).setCell hb z
theorem balloc (w : World) (o : Obj) : Below w.heap.size w (w.alloc o) := (Below.refl _ _).alloc (Nat.le_refl _) _
theorem balloc2 (w : World) (o o2 : Obj) : Below w.heap.size w ((w.alloc o).alloc o2) := (balloc w o).alloc (by simp) _
theorem balloc3 (w : World) (o o2 o3 : Obj) : Below w.heap.size w (((w.alloc o).alloc o2).alloc o3) := (balloc2 w o o2).alloc (by simp; omega) _
theorem bafter {w w' : World} {o : Obj} (hb : Below (w.alloc o).heap.size (w.alloc o) w') : Below w.heap.size w w' :=
  (balloc w o).trans (hb.mono (by simp))
theorem bafter2 {w w' : World} {o o2 : Obj} (hb : Below ((w.alloc o).alloc o2).heap.size ((w.alloc o).alloc o2) w') : Below w.heap.size w w' :=
  (balloc2 w o o2).trans (hb.mono (by simp; omega))
theorem bafter3 {w w' : World} {o o2 o3 : Obj} (hb : Below (((w.alloc o).alloc o2).alloc o3).heap.size (((w.alloc o).alloc o2).alloc o3) w') : Below w.heap.size w w' :=
  (balloc3 w o o2 o3).trans (hb.mono (by simp; omega))
theorem btr {w w1 w2 : World} (h : Below w.heap.size w w1) (h2 : Below w1.heap.size w1 w2) : Below w.heap.size w w2 := h.trans (h2.mono h.size)

theorem null_any (w : World) : Calls Tryz.prog 18 #[] w fun e w' => e = .returned (tv 0 0) ∧ Below w.heap.size w w' := by
  go_enter Tryz.func18, Tryz.ntmps18
  go_wp2
  exact bodyPost_ret (v := tv 0 0) (by simp [results, Tryz.results18, go_sem]) rfl ⟨rfl, balloc _ _⟩
theorem int_any (n : Int) (w : World) : Calls Tryz.prog 19 #[.int .i64 n] w fun e w' => e = .returned (tv 2 n) ∧ Below w.heap.size w w' := by
  go_enter Tryz.func19, Tryz.ntmps19
  go_wp2
  exact bodyPost_ret (v := tv 2 n) (by simp [results, Tryz.results19, go_sem]) rfl ⟨rfl, balloc _ _⟩
theorem rint_any (n : Int) (w : World) : Calls Tryz.prog 15 #[.int .i64 n] w fun e w' => e = .returned (tv 2 n) ∧ Below w.heap.size w w' := by
  go_enter Tryz.func15, Tryz.ntmps15
  go_wp2
  exact bodyPost_ret (v := tv 2 n) (by simp [results, Tryz.results15, go_sem]) rfl ⟨rfl, balloc _ _⟩
theorem vtext_any (s : ByteArray) (w : World) : Calls Tryz.prog 21 #[.string s] w fun e w' => e = .returned (gv 3 0 s) ∧ Below w.heap.size w w' := by
  go_enter Tryz.func21, Tryz.ntmps21
  go_wp2
  exact bodyPost_ret (v := gv 3 0 s) (by simp [results, Tryz.results21, go_sem]) rfl ⟨rfl, balloc _ _⟩
theorem rvtext_any (s : ByteArray) (w : World) : Calls Tryz.prog 9 #[.string s] w fun e w' => e = .returned (gv 3 0 s) ∧ Below w.heap.size w w' := by
  go_enter Tryz.func9, Tryz.ntmps9
  go_wp2
  exact bodyPost_ret (v := gv 3 0 s) (by simp [results, Tryz.results9, go_sem]) rfl ⟨rfl, balloc _ _⟩
theorem vbool_any (b : Bool) (w : World) : Calls Tryz.prog 20 #[.bool b] w fun e w' => e = .returned (tv 1 (b2t b)) ∧ Below w.heap.size w w' := by
  cases b
  · go_enter Tryz.func20, Tryz.ntmps20
    go_wp2
    exact bodyPost_ret (v := tv 1 0) (by simp [results, Tryz.results20, go_sem]) rfl ⟨rfl, balloc2 _ _ _⟩
  · go_enter Tryz.func20, Tryz.ntmps20
    go_wp2
    exact bodyPost_ret (v := tv 1 1) (by simp [results, Tryz.results20, go_sem]) rfl ⟨rfl, balloc2 _ _ _⟩

def okB (k n : Int) (s : ByteArray) : Bool := if k = 0 then (n == 0 && s.toList.isEmpty) else if k = 1 then ((n == 0 || n == 1) && s.toList.isEmpty) else if k = 2 then s.toList.isEmpty else (k == 3 && n == 0)

theorem ok_any (k n : Int) (s : ByteArray) (w : World) : Calls Tryz.prog 33 #[gv k n s] w fun e w' => e = .returned (.bool (okB k n s)) ∧ Below w.heap.size w w' := by
  by_cases k0 : k = 0
  · subst k0
    have e : okB 0 n s = (n == 0 && s.toList.isEmpty) := rfl
    rw [e]
    by_cases h0 : n = 0
    · subst h0
      go_enter Tryz.func33, Tryz.ntmps33
      go_wp2
      go_ret
      exact ⟨by simp, balloc _ _⟩
    · have h0' : (n == 0) = false := by simpa using h0
      go_enter Tryz.func33, Tryz.ntmps33
      go_wp2
      go_ret
      exact ⟨by simp [h0'], balloc _ _⟩
  by_cases k1 : k = 1
  · subst k1
    have e : okB 1 n s = ((n == 0 || n == 1) && s.toList.isEmpty) := rfl
    rw [e]
    clear k0
    by_cases h0 : n = 0
    · subst h0
      go_enter Tryz.func33, Tryz.ntmps33
      go_wp2
      go_ret
      exact ⟨by simp, balloc _ _⟩
    · have h0' : (n == 0) = false := by simpa using h0
      by_cases h1 : n = 1
      · subst h1
        go_enter Tryz.func33, Tryz.ntmps33
        go_wp2
        go_ret
        exact ⟨by simp, balloc _ _⟩
      · have h1' : (n == 1) = false := by simpa using h1
        go_enter Tryz.func33, Tryz.ntmps33
        go_wp2
        go_ret
        exact ⟨by simp [h0', h1'], balloc _ _⟩
  by_cases k2 : k = 2
  · subst k2
    have e : okB 2 n s = s.toList.isEmpty := rfl
    rw [e]
    clear k0 k1
    go_enter Tryz.func33, Tryz.ntmps33
    go_wp2
    go_ret
    exact ⟨rfl, balloc _ _⟩
  have e : okB k n s = (k == 3 && n == 0) := by unfold okB; rw [if_neg k0, if_neg k1, if_neg k2]
  rw [e]
  have k0' : (k == 0) = false := by simpa using k0
  have k1' : (k == 1) = false := by simpa using k1
  have k2' : (k == 2) = false := by simpa using k2
  clear k0 k1 k2 e
  by_cases k3 : k = 3
  · subst k3
    by_cases h0 : n = 0
    · subst h0
      go_enter Tryz.func33, Tryz.ntmps33
      go_wp2
      go_ret
      exact ⟨by simp, balloc _ _⟩
    · have h0' : (n == 0) = false := by simpa using h0
      go_enter Tryz.func33, Tryz.ntmps33
      go_wp2
      go_ret
      exact ⟨by simp [h0'], balloc _ _⟩
  · have k3' : (k == 3) = false := by simpa using k3
    go_enter Tryz.func33, Tryz.ntmps33
    go_wp2
    go_ret
    exact ⟨by simp [k3'], balloc _ _⟩

theorem is_yes (k n : Int) (s : ByteArray) (w : World) (h : okB k n s = true) : Calls Tryz.prog 17 #[gv k n s] w fun e w' => e = .returned (gv k n s) ∧ Below w.heap.size w w' := by
  have C := Lib.hid fun W => by have := ok_any k n s W; rw [h] at this; exact this
  clear h
  go_enter Tryz.func17, Tryz.ntmps17
  go_wp2_with (go_at_call 33; (with_reducible refine (C.out _).mono ?_); rintro e w1 ⟨rfl, hb⟩; obtain ⟨hc, hf⟩ := bcell hb; have hz : w.heap.size + 1 < w1.heap.size := (by have := hb.size; simp at this; omega))
  exact bodyPost_ret (v := gv k n s) (by simp [results, Tryz.results17, go_sem, hc]) rfl ⟨rfl, b3 (bafter2 hb) (by omega) _ _ _⟩
theorem is_no (k n : Int) (s : ByteArray) (w : World) (h : okB k n s = false) : Calls Tryz.prog 17 #[gv k n s] w fun e w' => e = .returned (tv 0 0) ∧ Below w.heap.size w w' := by
  have C := Lib.hid fun W => by have := ok_any k n s W; rw [h] at this; exact this
  clear h
  go_enter Tryz.func17, Tryz.ntmps17
  go_wp2_with (first
    | (go_at_call 33; (with_reducible refine (C.out _).mono ?_); rintro e w1 ⟨rfl, hb⟩; obtain ⟨hc, hf⟩ := bcell hb; have hz : w.heap.size + 1 < w1.heap.size := (by have := hb.size; simp at this; omega))
    | (go_at_call 18; (with_reducible refine (null_any _).mono ?_); rintro e w2 ⟨rfl, hb2⟩; obtain ⟨hc2, hf2⟩ := bcell hb2; have hz2 : w.heap.size + 1 < w2.heap.size := (by have := hb2.size; omega)))
  exact bodyPost_ret (v := tv 0 0) (by simp [results, Tryz.results17, go_sem, hc, hc2, hz]) rfl ⟨rfl, b3 (btr (bafter2 hb) hb2) (by omega) _ _ _⟩
end Go.Proofs.YtbghbfgbpdppeaaGreatDoor
