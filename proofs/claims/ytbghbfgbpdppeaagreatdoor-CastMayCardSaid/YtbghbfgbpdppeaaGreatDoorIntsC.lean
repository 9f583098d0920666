
/- Widths and the document's shifts: what each function returns, for every number of 64 bits. -/
import Derived.Test.YtbghbfgbpdppeaaGreatDoorIntsB
namespace Go.Proofs.YtbghbfgbpdppeaaGreatDoor
open Go.ChangeShapes Go.WideShapes Go.ChangeAt Go.RowKit

theorem wrap_any (x size : Int) (s : Bool) (w : World) :
    Calls Tryz.prog 32 #[.int .i64 x, .int .i64 size, .bool s] w fun e w' => e = .returned (.int .i64 (wrapV x size s)) ∧ w = w' := by
  by_cases h1 : size = 1
  · subst h1
    cases s
    · have e := Lib.hid (show wrap64 (IntKind.u8.wrap x) = wrapV x 1 false by rw [u8w]; simp only [wrapV]; unfold wrap64; simp; omega)
      go_enter Tryz.func32, Tryz.ntmps32
      go_wp2
      go_ret
      exact ⟨ret1 (by first | exact e.out | simp [wrapV]), rfl⟩
    · have e := Lib.hid (show wrap64 (IntKind.i8.wrap x) = wrapV x 1 true by rw [i8w]; simp only [wrapV]; unfold wrap64; simp; omega)
      go_enter Tryz.func32, Tryz.ntmps32
      go_wp2
      go_ret
      exact ⟨ret1 (by first | exact e.out | simp [wrapV]), rfl⟩
  · have g1 : (size == 1) = false := by simpa using h1
    by_cases h2 : size = 2
    · subst h2
      cases s
      · have e := Lib.hid (show wrap64 (IntKind.u16.wrap x) = wrapV x 2 false by rw [u16w]; simp only [wrapV]; unfold wrap64; simp; omega)
        go_enter Tryz.func32, Tryz.ntmps32
        go_wp2
        go_ret
        exact ⟨ret1 (by first | exact e.out | simp [wrapV]), rfl⟩
      · have e := Lib.hid (show wrap64 (IntKind.i16.wrap x) = wrapV x 2 true by rw [i16w]; simp only [wrapV]; unfold wrap64; simp; omega)
        go_enter Tryz.func32, Tryz.ntmps32
        go_wp2
        go_ret
        exact ⟨ret1 (by first | exact e.out | simp [wrapV]), rfl⟩
    · have g2 : (size == 2) = false := by simpa using h2
      by_cases h4 : size = 4
      · subst h4
        cases s
        · have e := Lib.hid (show wrap64 (IntKind.u32.wrap x) = wrapV x 4 false by rw [u32w]; simp only [wrapV]; unfold wrap64; simp; omega)
          go_enter Tryz.func32, Tryz.ntmps32
          go_wp2
          go_ret
          exact ⟨ret1 (by first | exact e.out | simp [wrapV]), rfl⟩
        · have e := Lib.hid (show wrap64 (IntKind.i32.wrap x) = wrapV x 4 true by rw [i32w]; simp only [wrapV]; unfold wrap64; simp; omega)
          have e' := Lib.hid (show wrap64 (wrap32 x) = wrapV x 4 true by simp only [wrapV]; unfold wrap64 wrap32; simp; omega)
          go_enter Tryz.func32, Tryz.ntmps32
          go_wp2
          go_ret
          exact ⟨ret1 (by first | exact e.out | exact e'.out), rfl⟩
      · have g4 : (size == 4) = false := by simpa using h4
        have e : wrapV x size s = x := by simp [wrapV, h1, h2, h4]
        rw [e]
        clear e
        go_enter Tryz.func32, Tryz.ntmps32
        go_wp2
        go_ret
        exact ⟨rfl, rfl⟩

end Go.Proofs.YtbghbfgbpdppeaaGreatDoor
