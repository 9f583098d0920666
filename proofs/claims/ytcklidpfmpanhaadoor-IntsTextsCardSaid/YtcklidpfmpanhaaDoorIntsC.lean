/- Widths and the document's shifts: what each function returns, for every number of 64 bits. -/
import Derived.Test.YtcklidpfmpanhaaDoorIntsB
namespace Go.Proofs.YtcklidpfmpanhaaDoor
open Go.ChangeShapes Go.WideShapes Go.ChangeAt Go.RowKit

theorem wrap_any (x size : Int) (s : Bool) (w : World) :
    Calls Tryd.prog 14 #[.int .i64 x, .int .i64 size, .bool s] w fun e w' => e = .returned (.int .i64 (wrapV x size s)) ∧ w = w' := by
  by_cases h1 : size = 1
  · subst h1
    cases s
    · have e := Lib.hid (show wrap64 (IntKind.u8.wrap x) = wrapV x 1 false by rw [u8w]; simp only [wrapV]; unfold wrap64; simp; omega)
      go_enter Tryd.func14, Tryd.ntmps14
      go_wp2
      go_ret
      exact ⟨ret1 (by first | exact e.out | simp [wrapV]), rfl⟩
    · have e := Lib.hid (show wrap64 (IntKind.i8.wrap x) = wrapV x 1 true by rw [i8w]; simp only [wrapV]; unfold wrap64; simp; omega)
      go_enter Tryd.func14, Tryd.ntmps14
      go_wp2
      go_ret
      exact ⟨ret1 (by first | exact e.out | simp [wrapV]), rfl⟩
  · have g1 : (size == 1) = false := by simpa using h1
    by_cases h2 : size = 2
    · subst h2
      cases s
      · have e := Lib.hid (show wrap64 (IntKind.u16.wrap x) = wrapV x 2 false by rw [u16w]; simp only [wrapV]; unfold wrap64; simp; omega)
        go_enter Tryd.func14, Tryd.ntmps14
        go_wp2
        go_ret
        exact ⟨ret1 (by first | exact e.out | simp [wrapV]), rfl⟩
      · have e := Lib.hid (show wrap64 (IntKind.i16.wrap x) = wrapV x 2 true by rw [i16w]; simp only [wrapV]; unfold wrap64; simp; omega)
        go_enter Tryd.func14, Tryd.ntmps14
        go_wp2
        go_ret
        exact ⟨ret1 (by first | exact e.out | simp [wrapV]), rfl⟩
    · have g2 : (size == 2) = false := by simpa using h2
      by_cases h4 : size = 4
      · subst h4
        cases s
        · have e := Lib.hid (show wrap64 (IntKind.u32.wrap x) = wrapV x 4 false by rw [u32w]; simp only [wrapV]; unfold wrap64; simp; omega)
          go_enter Tryd.func14, Tryd.ntmps14
          go_wp2
          go_ret
          exact ⟨ret1 (by first | exact e.out | simp [wrapV]), rfl⟩
        · have e := Lib.hid (show wrap64 (IntKind.i32.wrap x) = wrapV x 4 true by rw [i32w]; simp only [wrapV]; unfold wrap64; simp; omega)
          have e' := Lib.hid (show wrap64 (wrap32 x) = wrapV x 4 true by simp only [wrapV]; unfold wrap64 wrap32; simp; omega)
          go_enter Tryd.func14, Tryd.ntmps14
          go_wp2
          go_ret
          exact ⟨ret1 (by first | exact e.out | exact e'.out), rfl⟩
      · have g4 : (size == 4) = false := by simpa using h4
        have e : wrapV x size s = x := by simp [wrapV, h1, h2, h4]
        rw [e]
        clear e
        go_enter Tryd.func14, Tryd.ntmps14
        go_wp2
        go_ret
        exact ⟨rfl, rfl⟩

theorem rwrap_any (x size : Int) (s : Bool) (w : World) (hx : fits x = true) :
    Calls Tryd.prog 17 #[.int .i64 x, .int .i64 size, .bool s] w fun e w' => e = .returned (.int .i64 (wrapV x size s)) ∧ w = w' := by
  have hb := bd hx
  by_cases h1 : size = 1
  · subst h1
    have hm : x.tmod 256 = if 0 ≤ x then x % 256 else -((-x) % 256) := by
      split
      · rw [Int.tmod_eq_emod_of_nonneg (by omega)]
      · rw [show x = -(-x) by omega, Int.neg_tmod, Int.tmod_eq_emod_of_nonneg (by omega)]; simp
    have hr0 : -256 < x.tmod 256 ∧ x.tmod 256 < 256 := by rw [hm]; split <;> omega
    cases s
    · by_cases hn : x.tmod 256 < 0
      · have e := Lib.hid (show x.tmod 256 + 256 = wrapV x 1 false by simp only [wrapV]; simp; rw [hm] at hn ⊢; split <;> split at hn <;> omega)
        clear hm
        go_enter Tryd.func17, Tryd.ntmps17
        go_wp2
        go_ret
        exact ⟨ret1 e.out, rfl⟩
      · have e := Lib.hid (show x.tmod 256 = wrapV x 1 false by simp only [wrapV]; simp; rw [hm] at hn ⊢; split <;> split at hn <;> omega)
        clear hm
        go_enter Tryd.func17, Tryd.ntmps17
        go_wp2
        go_ret
        exact ⟨ret1 e.out, rfl⟩
    · by_cases hn : x.tmod 256 < 0
      · by_cases hq : 128 ≤ x.tmod 256 + 256
        · have e := Lib.hid (show x.tmod 256 + 256 - 256 = wrapV x 1 true by simp only [wrapV]; simp; rw [hm] at hn hq ⊢; split <;> simp_all <;> omega)
          clear hm
          go_enter Tryd.func17, Tryd.ntmps17
          go_wp2
          go_ret
          exact ⟨ret1 (by first | exact e.out | (rw [← e.out]; omega)), rfl⟩
        · have e := Lib.hid (show x.tmod 256 + 256 = wrapV x 1 true by simp only [wrapV]; simp; rw [hm] at hn hq ⊢; split <;> simp_all <;> omega)
          clear hm
          go_enter Tryd.func17, Tryd.ntmps17
          go_wp2
          go_ret
          exact ⟨ret1 e.out, rfl⟩
      · by_cases hq : 128 ≤ x.tmod 256
        · have e := Lib.hid (show x.tmod 256 - 256 = wrapV x 1 true by simp only [wrapV]; simp; rw [hm] at hn hq ⊢; split <;> simp_all <;> omega)
          clear hm
          go_enter Tryd.func17, Tryd.ntmps17
          go_wp2
          go_ret
          exact ⟨ret1 e.out, rfl⟩
        · have e := Lib.hid (show x.tmod 256 = wrapV x 1 true by simp only [wrapV]; simp; rw [hm] at hn hq ⊢; split <;> simp_all <;> omega)
          clear hm
          go_enter Tryd.func17, Tryd.ntmps17
          go_wp2
          go_ret
          exact ⟨ret1 e.out, rfl⟩
  · have g1 : (size != 1) = true := by simpa using h1
    by_cases h2 : size = 2
    · subst h2
      have hm : x.tmod 65536 = if 0 ≤ x then x % 65536 else -((-x) % 65536) := by
        split
        · rw [Int.tmod_eq_emod_of_nonneg (by omega)]
        · rw [show x = -(-x) by omega, Int.neg_tmod, Int.tmod_eq_emod_of_nonneg (by omega)]; simp
      have hr0 : -65536 < x.tmod 65536 ∧ x.tmod 65536 < 65536 := by rw [hm]; split <;> omega
      cases s
      · by_cases hn : x.tmod 65536 < 0
        · have e := Lib.hid (show x.tmod 65536 + 65536 = wrapV x 2 false by simp only [wrapV]; simp; rw [hm] at hn ⊢; split <;> split at hn <;> omega)
          clear hm
          go_enter Tryd.func17, Tryd.ntmps17
          go_wp2
          go_ret
          exact ⟨ret1 e.out, rfl⟩
        · have e := Lib.hid (show x.tmod 65536 = wrapV x 2 false by simp only [wrapV]; simp; rw [hm] at hn ⊢; split <;> split at hn <;> omega)
          clear hm
          go_enter Tryd.func17, Tryd.ntmps17
          go_wp2
          go_ret
          exact ⟨ret1 e.out, rfl⟩
      · by_cases hn : x.tmod 65536 < 0
        · by_cases hq : 32768 ≤ x.tmod 65536 + 65536
          · have e := Lib.hid (show x.tmod 65536 + 65536 - 65536 = wrapV x 2 true by simp only [wrapV]; simp; rw [hm] at hn hq ⊢; split <;> simp_all <;> omega)
            clear hm
            go_enter Tryd.func17, Tryd.ntmps17
            go_wp2
            go_ret
            exact ⟨ret1 (by first | exact e.out | (rw [← e.out]; omega)), rfl⟩
          · have e := Lib.hid (show x.tmod 65536 + 65536 = wrapV x 2 true by simp only [wrapV]; simp; rw [hm] at hn hq ⊢; split <;> simp_all <;> omega)
            clear hm
            go_enter Tryd.func17, Tryd.ntmps17
            go_wp2
            go_ret
            exact ⟨ret1 e.out, rfl⟩
        · by_cases hq : 32768 ≤ x.tmod 65536
          · have e := Lib.hid (show x.tmod 65536 - 65536 = wrapV x 2 true by simp only [wrapV]; simp; rw [hm] at hn hq ⊢; split <;> simp_all <;> omega)
            clear hm
            go_enter Tryd.func17, Tryd.ntmps17
            go_wp2
            go_ret
            exact ⟨ret1 e.out, rfl⟩
          · have e := Lib.hid (show x.tmod 65536 = wrapV x 2 true by simp only [wrapV]; simp; rw [hm] at hn hq ⊢; split <;> simp_all <;> omega)
            clear hm
            go_enter Tryd.func17, Tryd.ntmps17
            go_wp2
            go_ret
            exact ⟨ret1 e.out, rfl⟩
    · have g2 : (size != 2) = true := by simpa using h2
      by_cases h4 : size = 4
      · subst h4
        have hm : x.tmod 4294967296 = if 0 ≤ x then x % 4294967296 else -((-x) % 4294967296) := by
          split
          · rw [Int.tmod_eq_emod_of_nonneg (by omega)]
          · rw [show x = -(-x) by omega, Int.neg_tmod, Int.tmod_eq_emod_of_nonneg (by omega)]; simp
        have hr0 : -4294967296 < x.tmod 4294967296 ∧ x.tmod 4294967296 < 4294967296 := by rw [hm]; split <;> omega
        cases s
        · by_cases hn : x.tmod 4294967296 < 0
          · have e := Lib.hid (show x.tmod 4294967296 + 4294967296 = wrapV x 4 false by simp only [wrapV]; simp; rw [hm] at hn ⊢; split <;> split at hn <;> omega)
            clear hm
            go_enter Tryd.func17, Tryd.ntmps17
            go_wp2
            go_ret
            exact ⟨ret1 e.out, rfl⟩
          · have e := Lib.hid (show x.tmod 4294967296 = wrapV x 4 false by simp only [wrapV]; simp; rw [hm] at hn ⊢; split <;> split at hn <;> omega)
            clear hm
            go_enter Tryd.func17, Tryd.ntmps17
            go_wp2
            go_ret
            exact ⟨ret1 e.out, rfl⟩
        · by_cases hn : x.tmod 4294967296 < 0
          · by_cases hq : 2147483648 ≤ x.tmod 4294967296 + 4294967296
            · have e := Lib.hid (show x.tmod 4294967296 + 4294967296 - 4294967296 = wrapV x 4 true by simp only [wrapV]; simp; rw [hm] at hn hq ⊢; split <;> simp_all <;> omega)
              clear hm
              go_enter Tryd.func17, Tryd.ntmps17
              go_wp2
              go_ret
              exact ⟨ret1 (by first | exact e.out | (rw [← e.out]; omega)), rfl⟩
            · have e := Lib.hid (show x.tmod 4294967296 + 4294967296 = wrapV x 4 true by simp only [wrapV]; simp; rw [hm] at hn hq ⊢; split <;> simp_all <;> omega)
              clear hm
              go_enter Tryd.func17, Tryd.ntmps17
              go_wp2
              go_ret
              exact ⟨ret1 e.out, rfl⟩
          · by_cases hq : 2147483648 ≤ x.tmod 4294967296
            · have e := Lib.hid (show x.tmod 4294967296 - 4294967296 = wrapV x 4 true by simp only [wrapV]; simp; rw [hm] at hn hq ⊢; split <;> simp_all <;> omega)
              clear hm
              go_enter Tryd.func17, Tryd.ntmps17
              go_wp2
              go_ret
              exact ⟨ret1 e.out, rfl⟩
            · have e := Lib.hid (show x.tmod 4294967296 = wrapV x 4 true by simp only [wrapV]; simp; rw [hm] at hn hq ⊢; split <;> simp_all <;> omega)
              clear hm
              go_enter Tryd.func17, Tryd.ntmps17
              go_wp2
              go_ret
              exact ⟨ret1 e.out, rfl⟩
      · have g4 : (size != 4) = true := by simpa using h4
        have e : wrapV x size s = x := by simp [wrapV, h1, h2, h4]
        rw [e]
        clear e
        go_enter Tryd.func17, Tryd.ntmps17
        go_wp2
        go_ret
        exact ⟨rfl, rfl⟩

theorem fit_any (x size : Int) (s : Bool) (w : World) :
    Calls Tryd.prog 15 #[.int .i64 x, .int .i64 size, .bool s] w fun e w' => e = .returned (.tuple #[.int .i64 (fitV x size s), .int .i64 (fitE x size s)]) ∧ w = w' := by
  have C := Lib.hid (wrap_any x size s w)
  by_cases h : wrapV x size s = x
  · have e1 : fitV x size s = x := by simp [fitV, h]
    have e2 : fitE x size s = 0 := by simp [fitE, h]
    rw [e1, e2]
    have g := Lib.hid h
    clear e1 e2 h
    go_enter Tryd.func15, Tryd.ntmps15
    go_wp2_with (go_at_call 14; refine C.out.mono ?_; rintro e w' ⟨rfl, rfl⟩; have g2 : (wrapV x size s != x) = false := (by rw [g.out]; simp))
    go_ret2
    exact ⟨rfl, rfl⟩
  · have e1 : fitV x size s = 0 := by simp [fitV, h]
    have e2 : fitE x size s = 17 := by simp [fitE, h]
    rw [e1, e2]
    clear e1 e2
    have g2 : (wrapV x size s != x) = true := by simpa using h
    go_enter Tryd.func15, Tryd.ntmps15
    go_wp2_with (go_at_call 14; refine C.out.mono ?_; rintro e w' ⟨rfl, rfl⟩)
    go_ret2
    exact ⟨rfl, rfl⟩

theorem rfit_any (x size : Int) (s : Bool) (w : World) (hx : fits x = true) :
    Calls Tryd.prog 16 #[.int .i64 x, .int .i64 size, .bool s] w fun e w' => e = .returned (.tuple #[.int .i64 (fitV x size s), .int .i64 (fitE x size s)]) ∧ w = w' := by
  have C := Lib.hid (rwrap_any x size s w hx)
  by_cases h : wrapV x size s = x
  · have e1 : fitV x size s = x := by simp [fitV, h]
    have e2 : fitE x size s = 0 := by simp [fitE, h]
    rw [e1, e2]
    have g := Lib.hid h
    clear e1 e2 h
    go_enter Tryd.func16, Tryd.ntmps16
    go_wp2_with (go_at_call 17; refine C.out.mono ?_; rintro e w' ⟨rfl, rfl⟩; have g2 : (wrapV x size s != x) = false := (by rw [g.out]; simp))
    go_ret2
    exact ⟨rfl, rfl⟩
  · have e1 : fitV x size s = 0 := by simp [fitV, h]
    have e2 : fitE x size s = 17 := by simp [fitE, h]
    rw [e1, e2]
    clear e1 e2
    have g2 : (wrapV x size s != x) = true := by simpa using h
    go_enter Tryd.func16, Tryd.ntmps16
    go_wp2_with (go_at_call 17; refine C.out.mono ?_; rintro e w' ⟨rfl, rfl⟩)
    go_ret2
    exact ⟨rfl, rfl⟩

end Go.Proofs.YtcklidpfmpanhaaDoor
