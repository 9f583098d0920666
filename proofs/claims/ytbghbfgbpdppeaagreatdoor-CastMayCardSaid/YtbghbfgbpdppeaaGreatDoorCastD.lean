
/- A text as a number (cast.read), a number's text (val.Print, val.Show), cast.To among numbers, texts and truths: what each returns. -/
import Derived.Test.YtbghbfgbpdppeaaGreatDoorCastC
namespace Go.Proofs.YtbghbfgbpdppeaaGreatDoor
open Go.ChangeShapes Go.WideShapes Go.ChangeAt Go.RowKit
set_option linter.unusedVariables false

theorem blankAscii : ∀ (j : Nat) b, (⟨#[32]⟩ : ByteArray).data.toList[j]? = some b → b.toNat < 128 := ascii_of_all (by decide)
/-- a text without blanks at its ends -/
def trimB (l : List UInt8) : List UInt8 := Lib.trimS l [32]
theorem dropW_len (p : UInt8 → Bool) : ∀ l : List UInt8, (l.dropWhile p).length ≤ l.length
  | [] => Nat.le_refl _
  | c :: r => by
    rw [List.dropWhile_cons]
    split
    · exact Nat.le_trans (dropW_len p r) (by simp)
    · exact Nat.le_refl _
theorem trimB_len (l : List UInt8) : (trimB l).length ≤ l.length := by
  unfold trimB Lib.trimS Lib.trimLeftS Lib.trimRightS
  refine Nat.le_trans (dropW_len _ _) ?_
  rw [List.length_reverse]
  refine Nat.le_trans (dropW_len _ _) ?_
  rw [List.length_reverse]
  exact Nat.le_refl _

set_option maxRecDepth 100000 in
theorem read_ok (s : ByteArray) (w : World) (hs : s.size ≤ 1000) (hT : TabsX w) (he : numE (trimB (bl s)) = 0) :
    Calls Tryz.prog 23 #[.string s, .int .i64 2] w fun e w' => e = .returned (.tuple #[tv 2 (numV (trimB (bl s))), .int .i64 0]) ∧ Below w.heap.size w w' := by
  obtain ⟨R, hR⟩ : ∃ R : ByteArray, R = ⟨(Lib.trimS s.data.toList [32]).toArray⟩ := ⟨_, rfl⟩
  have hRb : bl R = trimB (bl s) := by rw [hR]; rfl
  have hRs : R.size ≤ 1000 := by
    rw [← bl_len, hRb]
    have := trimB_len (bl s)
    rw [bl_len] at this
    omega
  have C1 : Hid (∀ W, Calls Tryz.prog 36 #[.string s, .string ⟨#[32]⟩] W fun e w' => e = .returned (.string R) ∧ Below W.heap.size W w') :=
    Lib.hid fun W => (Tryz.strings_Trim_laid s ⟨#[32]⟩ W (by omega) (by decide) blankAscii).mono fun e w' ⟨he, hb⟩ => ⟨by rw [he, hR], hb⟩
  have C2 := fun W (hb : Below w.heap.size w W) => parse_any R W hRs (hT.below hb)
  rw [hRb, he] at C2
  generalize numV (trimB (bl s)) = n at *
  replace C2 := Lib.hid C2
  clear hR hRb he hT
  go_enter Tryz.func23, Tryz.ntmps23
  go_wp2_with (first
    | (go_at_call 36; (with_reducible refine (C1.out _).mono ?_); rintro e w1 ⟨rfl, hb1⟩; have hb2 := bafter hb1; have hz1 := (show w.heap.size < w1.heap.size by have := hb1.size; simp at this; omega))
    | (go_at_call 35; (with_reducible refine (C2.out w1 hb2).mono ?_); rintro e w2 ⟨rfl, hb3⟩)
    | (go_at_call 19; (with_reducible refine (int_any n _).mono ?_); rintro e w3 ⟨rfl, hb4⟩; have hb5 := hb1.trans ((btr hb3 hb4).mono hb1.size); have hz3 := (show w.heap.size < w3.heap.size by have := hb5.size; simp at this; omega); have g0 := fun o => hb5.cell (p := ⟨w.heap.size, o, none⟩) (by simp); have g1 := fun o => hb5.frozen (p := ⟨w.heap.size, o, none⟩) (by simp)))
  exact bodyPost_ret (v := .tuple #[tv 2 n, .int .i64 0]) (by simp [results, Tryz.results23, go_sem, g0]) rfl ⟨rfl, b3 (bafter hb5) (by omega) _ _ _⟩

set_option maxRecDepth 100000 in
theorem read_no (s : ByteArray) (w : World) (hs : s.size ≤ 1000) (hT : TabsX w) (he : (numE (trimB (bl s)) != 0) = true) :
    Calls Tryz.prog 23 #[.string s, .int .i64 2] w fun e w' => e = .returned (.tuple #[tv 0 0, .int .i64 20]) ∧ Below w.heap.size w w' := by
  obtain ⟨R, hR⟩ : ∃ R : ByteArray, R = ⟨(Lib.trimS s.data.toList [32]).toArray⟩ := ⟨_, rfl⟩
  have hRb : bl R = trimB (bl s) := by rw [hR]; rfl
  have hRs : R.size ≤ 1000 := by
    rw [← bl_len, hRb]
    have := trimB_len (bl s)
    rw [bl_len] at this
    omega
  have C1 : Hid (∀ W, Calls Tryz.prog 36 #[.string s, .string ⟨#[32]⟩] W fun e w' => e = .returned (.string R) ∧ Below W.heap.size W w') :=
    Lib.hid fun W => (Tryz.strings_Trim_laid s ⟨#[32]⟩ W (by omega) (by decide) blankAscii).mono fun e w' ⟨he, hb⟩ => ⟨by rw [he, hR], hb⟩
  have C2 := fun W (hb : Below w.heap.size w W) => parse_any R W hRs (hT.below hb)
  rw [hRb] at C2
  generalize numV (trimB (bl s)) = n at *
  generalize numE (trimB (bl s)) = er at *
  replace C2 := Lib.hid C2
  clear hR hRb hT
  go_enter Tryz.func23, Tryz.ntmps23
  go_wp2_with (first
    | (go_at_call 36; (with_reducible refine (C1.out _).mono ?_); rintro e w1 ⟨rfl, hb1⟩; have hb2 := bafter hb1; have hz1 := (show w.heap.size < w1.heap.size by have := hb1.size; simp at this; omega))
    | (go_at_call 35; (with_reducible refine (C2.out w1 hb2).mono ?_); rintro e w2 ⟨rfl, hb3⟩)
    | (go_at_call 18; (with_reducible refine (null_any _).mono ?_); rintro e w3 ⟨rfl, hb4⟩; have hb5 := hb1.trans ((btr hb3 hb4).mono hb1.size); have hz3 := (show w.heap.size < w3.heap.size by have := hb5.size; simp at this; omega); have g0 := fun o => hb5.cell (p := ⟨w.heap.size, o, none⟩) (by simp); have g1 := fun o => hb5.frozen (p := ⟨w.heap.size, o, none⟩) (by simp)))
  exact bodyPost_ret (v := .tuple #[tv 0 0, .int .i64 20]) (by simp [results, Tryz.results23, go_sem, g0]) rfl ⟨rfl, b3 (bafter hb5) (by omega) _ _ _⟩

theorem print_int (n : Int) (w : World) (hn : fits n = true) (hT : TabsX w) :
    Calls Tryz.prog 34 #[tv 2 n] w fun e w' => e = .returned (.string ⟨(Lib.itoa n).toArray⟩) ∧ Below w.heap.size w w' := by
  have I := Lib.hid (fun W => is_yes 2 n { data := #[] } W (okB_int n))
  have C := Lib.hid (fun W (hb : Below w.heap.size w W) => text_any n W hn (hT.below hb).1)
  clear hT hn
  go_enter Tryz.func34, Tryz.ntmps34
  go_wp2_with (first
    | (go_at_call 17; (with_reducible refine (I.out _).mono ?_); rintro e w1 ⟨rfl, hb1⟩; have hz1 := (show w.heap.size < w1.heap.size by have := hb1.size; simp at this; omega); have g0 := fun o => hb1.cell (p := ⟨w.heap.size, o, none⟩) (by simp); have g1 := fun o => hb1.frozen (p := ⟨w.heap.size, o, none⟩) (by simp); have hb2 := b3 (bafter hb1) (Nat.le_refl _) (.int .i64 2) (.int .i64 n) (.string { data := #[] }))
    | (go_at_call 51; (with_reducible refine (C.out _ hb2).mono ?_); rintro e w2 ⟨rfl, hb3⟩))
  go_ret
  exact ⟨rfl, hb2.trans (hb3.mono hb2.size)⟩
theorem show_int (n : Int) (w : World) (hn : fits n = true) (hT : TabsX w) :
    Calls Tryz.prog 22 #[tv 2 n] w fun e w' => e = .returned (.string ⟨(Lib.itoa n).toArray⟩) ∧ Below w.heap.size w w' := by
  have I := Lib.hid (fun W => is_yes 2 n { data := #[] } W (okB_int n))
  have C := Lib.hid (fun W (hb : Below w.heap.size w W) => print_int n W hn (hT.below hb))
  clear hT hn
  go_enter Tryz.func22, Tryz.ntmps22
  go_wp2_with (first
    | (go_at_call 17; (with_reducible refine (I.out _).mono ?_); rintro e w1 ⟨rfl, hb1⟩; have hz1 := (show w.heap.size < w1.heap.size by have := hb1.size; simp at this; omega); have g0 := fun o => hb1.cell (p := ⟨w.heap.size, o, none⟩) (by simp); have g1 := fun o => hb1.frozen (p := ⟨w.heap.size, o, none⟩) (by simp); have hb2 := b3 (bafter hb1) (Nat.le_refl _) (.int .i64 2) (.int .i64 n) (.string { data := #[] }))
    | (go_at_call 34; (with_reducible refine (C.out _ hb2).mono ?_); rintro e w2 ⟨rfl, hb3⟩))
  go_ret
  exact ⟨rfl, hb2.trans (hb3.mono hb2.size)⟩
end Go.Proofs.YtbghbfgbpdppeaaGreatDoor
