
/- elem.Text: the text of a word. -/
import Derived.Test.YtbghbfgbpdppeaaDoorElemE
namespace Go.Proofs.YtbghbfgbpdppeaaDoor
open Go.ChangeShapes Go.WideShapes Go.ChangeAt Go.RowKit
set_option linter.unusedVariables false

theorem hxs (k n : Nat) : (⟨(hxn k n).toArray⟩ : ByteArray).size = k := by
  show (hxn k n).toArray.size = k
  simp [hxn_len]

set_option maxRecDepth 4000 in
theorem text_false (x : Nat) (w : World) (hx : x < 4294967296) (hv : wV x = false) (hT : TzT w) :
    Calls Tryd.prog 28 #[.int .u32 x] w fun e w' => e = .returned (.string ⟨(txt x).toArray⟩) ∧ Below w.heap.size w w' := by
  have V : Hid (∀ W, Calls Tryd.prog 25 #[.int .u32 x] W fun e w' => e = .returned (.bool false) ∧ W = w') := Lib.hid (fun W => by have h := variable_any x W hx; rw [hv] at h; exact h)
  have W1 : Hid (∀ W, Calls Tryd.prog 24 #[.int .u32 x, .int .i64 1] W fun e w' => e = .returned (.int .i64 (wP x : Nat)) ∧ W = w') := Lib.hid (fun W => weight_any x 1 W hx)
  have W2 : Hid (∀ W, Calls Tryd.prog 24 #[.int .u32 x, .int .i64 2] W fun e w' => e = .returned (.int .i64 (wS x : Nat)) ∧ W = w') := Lib.hid (fun W => weight_any x 2 W hx)
  have W3 : Hid (∀ W, Calls Tryd.prog 24 #[.int .u32 x, .int .i64 3] W fun e w' => e = .returned (.int .i64 (wT x : Nat)) ∧ W = w') := Lib.hid (fun W => weight_any x 3 W hx)
  have H1 : Hid (∀ W, Below w.heap.size w W → Calls Tryd.prog 49 #[.int .i64 (wP x : Nat), .int .i64 4] W fun e w' => e = .returned (.string ⟨(hxn 4 (wP x)).toArray⟩) ∧ Below W.heap.size W w') := Lib.hid (fun W hb => hex_any (wP x) 3 W (by omega) (wP_lt hx) (hT.below hb))
  have H2 : Hid (∀ W, Below w.heap.size w W → Calls Tryd.prog 49 #[.int .i64 (wS x : Nat), .int .i64 2] W fun e w' => e = .returned (.string ⟨(hxn 2 (wS x)).toArray⟩) ∧ Below W.heap.size W w') := Lib.hid (fun W hb => hex_any (wS x) 1 W (by omega) (wS_lt x) (hT.below hb))
  have H3 : Hid (∀ W, Below w.heap.size w W → Calls Tryd.prog 49 #[.int .i64 (wT x : Nat), .int .i64 2] W fun e w' => e = .returned (.string ⟨(hxn 2 (wT x)).toArray⟩) ∧ Below W.heap.size W w') := Lib.hid (fun W hb => hex_any (wT x) 1 W (by omega) (Nat.lt_of_lt_of_le (wT_lt x) (by decide)) (hT.below hb))
  have hR : (⟨#[91]⟩ : ByteArray) ++ ⟨(hxn 4 (wP x)).toArray⟩ ++ ⟨#[46]⟩ ++ ⟨(hxn 2 (wS x)).toArray⟩ ++ ⟨#[46]⟩ ++ ⟨(hxn 2 (wT x)).toArray⟩ ++ ⟨#[93]⟩ = ⟨(txt x).toArray⟩ := by
    apply bytes_inj
    simp [ByteArray.data_append, txt, aheadT, midT, hv]
  have s1 := hxs 4 (wP x)
  have s2 := hxs 2 (wS x)
  have s3 := hxs 2 (wT x)
  clear hT hx hv
  generalize (⟨(txt x).toArray⟩ : ByteArray) = R at *
  generalize (⟨(hxn 4 (wP x)).toArray⟩ : ByteArray) = a at *
  generalize (⟨(hxn 2 (wS x)).toArray⟩ : ByteArray) = b at *
  generalize (⟨(hxn 2 (wT x)).toArray⟩ : ByteArray) = c at *
  generalize (wP x : Int) = p at *
  generalize (wS x : Int) = q at *
  generalize (wT x : Int) = r at *
  generalize (x : Int) = x at *
  replace hR := Lib.hid hR
  go_enter Tryd.func28, Tryd.ntmps28
  go_wp2_with (first
    | (go_at_call 25; (with_reducible refine (V.out _).mono ?_); rintro e w' ⟨rfl, rfl⟩)
    | (go_at_call 24; (with_reducible refine (W1.out _).mono ?_); rintro e w' ⟨rfl, rfl⟩)
    | (go_at_call 24; (with_reducible refine (W2.out _).mono ?_); rintro e w' ⟨rfl, rfl⟩)
    | (go_at_call 24; (with_reducible refine (W3.out _).mono ?_); rintro e w' ⟨rfl, rfl⟩)
    | (go_at_call 49; (with_reducible refine (H1.out _ (Below.refl _ _)).mono ?_); rintro e w1 ⟨rfl, hb1⟩)
    | (go_at_call 49; (with_reducible refine (H2.out _ hb1).mono ?_); rintro e w2 ⟨rfl, hb2⟩; have hb3 := hb1.trans (hb2.mono hb1.size))
    | (go_at_call 49; (with_reducible refine (H3.out _ hb3).mono ?_); rintro e w3 ⟨rfl, hb4⟩; have hb5 := hb3.trans (hb4.mono hb3.size)))
  go_ret
  exact ⟨by rw [← hR.out]; rfl, hb5⟩

set_option maxRecDepth 4000 in
theorem text_true (x : Nat) (w : World) (hx : x < 4294967296) (hv : wV x = true) (hT : TzT w) :
    Calls Tryd.prog 28 #[.int .u32 x] w fun e w' => e = .returned (.string ⟨(txt x).toArray⟩) ∧ Below w.heap.size w w' := by
  have V : Hid (∀ W, Calls Tryd.prog 25 #[.int .u32 x] W fun e w' => e = .returned (.bool true) ∧ W = w') := Lib.hid (fun W => by have h := variable_any x W hx; rw [hv] at h; exact h)
  have W1 : Hid (∀ W, Calls Tryd.prog 24 #[.int .u32 x, .int .i64 1] W fun e w' => e = .returned (.int .i64 (wP x : Nat)) ∧ W = w') := Lib.hid (fun W => weight_any x 1 W hx)
  have W2 : Hid (∀ W, Calls Tryd.prog 24 #[.int .u32 x, .int .i64 2] W fun e w' => e = .returned (.int .i64 (wS x : Nat)) ∧ W = w') := Lib.hid (fun W => weight_any x 2 W hx)
  have W3 : Hid (∀ W, Calls Tryd.prog 24 #[.int .u32 x, .int .i64 3] W fun e w' => e = .returned (.int .i64 (wT x : Nat)) ∧ W = w') := Lib.hid (fun W => weight_any x 3 W hx)
  have H1 : Hid (∀ W, Below w.heap.size w W → Calls Tryd.prog 49 #[.int .i64 (wP x : Nat), .int .i64 4] W fun e w' => e = .returned (.string ⟨(hxn 4 (wP x)).toArray⟩) ∧ Below W.heap.size W w') := Lib.hid (fun W hb => hex_any (wP x) 3 W (by omega) (wP_lt hx) (hT.below hb))
  have H2 : Hid (∀ W, Below w.heap.size w W → Calls Tryd.prog 49 #[.int .i64 (wS x : Nat), .int .i64 2] W fun e w' => e = .returned (.string ⟨(hxn 2 (wS x)).toArray⟩) ∧ Below W.heap.size W w') := Lib.hid (fun W hb => hex_any (wS x) 1 W (by omega) (wS_lt x) (hT.below hb))
  have H3 : Hid (∀ W, Below w.heap.size w W → Calls Tryd.prog 49 #[.int .i64 (wT x : Nat), .int .i64 2] W fun e w' => e = .returned (.string ⟨(hxn 2 (wT x)).toArray⟩) ∧ Below W.heap.size W w') := Lib.hid (fun W hb => hex_any (wT x) 1 W (by omega) (Nat.lt_of_lt_of_le (wT_lt x) (by decide)) (hT.below hb))
  have hR : ((⟨#[91]⟩ : ByteArray) ++ ⟨#[42]⟩) ++ ⟨(hxn 4 (wP x)).toArray⟩ ++ ⟨#[46]⟩ ++ ⟨(hxn 2 (wS x)).toArray⟩ ++ ⟨#[46]⟩ ++ ⟨(hxn 2 (wT x)).toArray⟩ ++ ⟨#[93]⟩ = ⟨(txt x).toArray⟩ := by
    apply bytes_inj
    simp [ByteArray.data_append, txt, aheadT, midT, hv]
  have s1 := hxs 4 (wP x)
  have s2 := hxs 2 (wS x)
  have s3 := hxs 2 (wT x)
  clear hT hx hv
  generalize (⟨(txt x).toArray⟩ : ByteArray) = R at *
  generalize (⟨(hxn 4 (wP x)).toArray⟩ : ByteArray) = a at *
  generalize (⟨(hxn 2 (wS x)).toArray⟩ : ByteArray) = b at *
  generalize (⟨(hxn 2 (wT x)).toArray⟩ : ByteArray) = c at *
  generalize (wP x : Int) = p at *
  generalize (wS x : Int) = q at *
  generalize (wT x : Int) = r at *
  generalize (x : Int) = x at *
  replace hR := Lib.hid hR
  go_enter Tryd.func28, Tryd.ntmps28
  go_wp2_with (first
    | (go_at_call 25; (with_reducible refine (V.out _).mono ?_); rintro e w' ⟨rfl, rfl⟩)
    | (go_at_call 24; (with_reducible refine (W1.out _).mono ?_); rintro e w' ⟨rfl, rfl⟩)
    | (go_at_call 24; (with_reducible refine (W2.out _).mono ?_); rintro e w' ⟨rfl, rfl⟩)
    | (go_at_call 24; (with_reducible refine (W3.out _).mono ?_); rintro e w' ⟨rfl, rfl⟩)
    | (go_at_call 49; (with_reducible refine (H1.out _ (Below.refl _ _)).mono ?_); rintro e w1 ⟨rfl, hb1⟩)
    | (go_at_call 49; (with_reducible refine (H2.out _ hb1).mono ?_); rintro e w2 ⟨rfl, hb2⟩; have hb3 := hb1.trans (hb2.mono hb1.size))
    | (go_at_call 49; (with_reducible refine (H3.out _ hb3).mono ?_); rintro e w3 ⟨rfl, hb4⟩; have hb5 := hb3.trans (hb4.mono hb3.size)))
  go_ret
  exact ⟨by rw [← hR.out]; rfl, hb5⟩

theorem text_elem (x : Nat) (w : World) (hx : x < 4294967296) (hT : TzT w) :
    Calls Tryd.prog 28 #[.int .u32 x] w fun e w' => e = .returned (.string ⟨(txt x).toArray⟩) ∧ Below w.heap.size w w' := by
  cases hv : wV x
  · exact text_false x w hx hv hT
  · exact text_true x w hx hv hT
end Go.Proofs.YtbghbfgbpdppeaaDoor
