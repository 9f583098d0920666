/- IntsTexts is true of every input: the walk, where the listed variables stand. -/
import Derived.Test.YtcklidpfmpanhaaDoorIntsQ
import Derived.Test.YtcklidpfmpanhaaDoorIntsF
namespace Go.Proofs.YtcklidpfmpanhaaDoor
open Go.ChangeShapes Go.WideShapes Go.ChangeAt Go.RowKit
set_option linter.unusedVariables false

set_option maxRecDepth 100000 in
theorem walk_IntsTexts (x : Int) (s : ByteArray) (wx : (Lit.int .i64 x).wf = true) (_ws : s.size ≤ maxLen) (w : World) (hT : TabsX w) :
    Calls Tryd.prog 13 #[.int .i64 x, .string s] w fun e w' => e = .returned (.bool true) ∧ Below w.heap.size w w' := by
  have hx := fits_wf wx
  have K := Lib.hid (fun W (hb : Below w.heap.size w W) => awake_any W (hT.below hb).1)
  clear wx _ws
  by_cases hs : s.size ≤ 100
  · obtain ⟨t, ht⟩ : ∃ t : ByteArray, t = ⟨(Lib.itoa x).toArray⟩ := ⟨_, rfl⟩
    have hb := bd hx
    have hts : t.size ≤ 21 := by
      rw [ht, ← bl_len, bl_mk]
      exact Lib.itoa_length_le x hb.1 hb.2
    have C1 := text_any x w hx hT.1
    have C4 := fun W => rtext_any x W hx
    have C2 := fun W (hb : Below w.heap.size w W) => parse_any t W (by omega) (hT.below hb)
    have e1 : numV (bl t) = x := by rw [ht, bl_mk, numV_itoa hx]
    have e2 : numE (bl t) = 0 := by rw [ht, bl_mk, numE_itoa hx]
    rw [e1, e2] at C2
    rw [← ht] at C1 C4
    have C3 := fun W (hb : Below w.heap.size w W) => parse_any s W (by omega) (hT.below hb)
    have C5 := fun W => rparse_any s W (by omega)
    have C6 := fun W => same_any (numV (bl s)) (numE (bl s)) W
    generalize numV (bl s) = z at *
    generalize numE (bl s) = f at *
    replace C1 := Lib.hid C1
    replace C2 := Lib.hid C2
    replace C3 := Lib.hid C3
    replace C4 := Lib.hid C4
    replace C5 := Lib.hid C5
    replace C6 := Lib.hid C6
    clear e1 e2 ht hx hT hb
    go_enter Tryd.func13, Tryd.ntmps13
    go_wp2_with (first
      | (go_at_call 41; (with_reducible refine C1.out.mono ?_); rintro e w1 ⟨rfl, hb1⟩)
      | (go_at_call 45; (with_reducible refine (C2.out w1 hb1).mono ?_); rintro e w2 ⟨rfl, hb2⟩; have hb3 := hb1.trans (hb2.mono hb1.size); clear hb2)
      | (go_at_call 45; (with_reducible refine (C3.out w2 hb3).mono ?_); rintro e w3 ⟨rfl, hb4⟩; have hb5 := hb3.trans (hb4.mono hb3.size); clear hb4)
      | (go_at_call 46; (with_reducible refine (C5.out _).mono ?_); rintro e w4 ⟨rfl, rfl⟩)
      | (go_at_call 40; (with_reducible refine (C4.out _).mono ?_); rintro e w5 ⟨rfl, rfl⟩)
      | (go_at_call 18; (with_reducible refine (C6.out _).mono ?_); rintro e w6 ⟨rfl, rfl⟩)
      | (go_at_call 19; (with_reducible refine (K.out w3 hb5).mono ?_); rintro e w7 ⟨rfl, hb7⟩))
    go_ret
    exact ⟨rfl, hb5.trans (hb7.mono hb5.size)⟩
  · have hs2 : 100 < s.size := by omega
    clear hT
    go_enter Tryd.func13, Tryd.ntmps13
    go_wp2_with (go_at_call 19; (with_reducible refine (K.out w (Below.refl _ _)).mono ?_); rintro e w3 ⟨rfl, hb3⟩)
    go_ret
    exact ⟨rfl, hb3⟩
end Go.Proofs.YtcklidpfmpanhaaDoor
