
/- strconv.FormatInt at base 16 of a number below 65536; elem.hex. -/
import Derived.Test.YtbghbfgbpdppeaaDoorElemD
import Derived.Test.YtbghbfgbpdppeaaDoorShelfE
namespace Go.Proofs.YtbghbfgbpdppeaaDoor
open Go.ChangeShapes Go.WideShapes Go.ChangeAt Go.RowKit
set_option linter.unusedVariables false

theorem rep48 : ∀ d, Lib.repeatL [48] d = List.replicate d (48 : UInt8)
  | 0 => rfl
  | d + 1 => by
    rw [List.replicate_succ, ← rep48 d]
    rfl
set_option maxRecDepth 4000 in
theorem ifmt_any (u : Nat) (w : World) (hu : u < 65536) (hT : TzT w) :
    Calls Tryd.prog 88 #[.int .i64 u, .int .i64 16] w fun e w' => e = .returned (.string ⟨(hxL u).toArray⟩) ∧ Below w.heap.size w w' := by
  have C := Lib.hid (fun W (hb : Below w.heap.size w W) => fmtBits u W hu (hT.below hb))
  have C2 : Hid (∀ W, Below w.heap.size w W → Calls Tryd.prog 109 #[.slice none 0 0, .int .u64 u, .int .i64 16, .bool (decide ((u : Int) < 0)), .bool false] W fun e w' => ∃ v, e = .returned (.tuple #[v, .string ⟨(hxL u).toArray⟩]) ∧ Below W.heap.size W w') := by
    have hz : decide ((u : Int) < 0) = false := by simp
    rw [hz]
    exact C
  have h0 : 0 ≤ (u : Int) := by omega
  have h1 : (u : Int) ≤ 65535 := by omega
  clear hu hT C
  generalize (⟨(hxL u).toArray⟩ : ByteArray) = t at *
  generalize (u : Int) = z at *
  go_enter Tryd.func88, Tryd.ntmps88
  go_wp2_with (first | (go_at_call 109; (with_reducible refine (C2.out _ (Below.refl _ _)).mono ?_); rintro e w1 ⟨v, rfl, hb1⟩))
  all_goals
    go_ret
    exact ⟨rfl, hb1⟩

theorem fmt_any (u : Nat) (w : World) (hu : u < 65536) (hT : TzT w) :
    Calls Tryd.prog 71 #[.int .i64 u, .int .i64 16] w fun e w' => e = .returned (.string ⟨(hxL u).toArray⟩) ∧ Below w.heap.size w w' := by
  have C2 : Hid (∀ W, Below w.heap.size w W → Calls Tryd.prog 88 #[.int .i64 u, .int .i64 16] W fun e w' => e = .returned (.string ⟨(hxL u).toArray⟩) ∧ Below W.heap.size W w') := Lib.hid (fun W (hb : Below w.heap.size w W) => ifmt_any u W hu (hT.below hb))
  clear hu hT
  generalize (⟨(hxL u).toArray⟩ : ByteArray) = t at *
  generalize (u : Int) = z at *
  go_enter Tryd.func71, Tryd.ntmps71
  go_wp2_with (first | (go_at_call 88; (with_reducible refine (C2.out _ (Below.refl _ _)).mono ?_); rintro e w1 ⟨rfl, hb1⟩))
  go_ret
  exact ⟨rfl, hb1⟩

theorem hex_any (u k : Nat) (w : World) (hk : k ≤ 3) (hu : u < 16 ^ (k + 1)) (hT : TzT w) :
    Calls Tryd.prog 49 #[.int .i64 u, .int .i64 ((k : Int) + 1)] w fun e w' => e = .returned (.string ⟨(hxn (k + 1) u).toArray⟩) ∧ Below w.heap.size w w' := by
  have hu' : u < 65536 := Nat.lt_of_lt_of_le hu (Nat.pow_le_pow_right (by decide) (show k + 1 ≤ 4 by omega))
  obtain ⟨hl, hp⟩ := hxL_pad k u hu
  have C1 : Hid (∀ W, Below w.heap.size w W → Calls Tryd.prog 71 #[.int .i64 u, .int .i64 16] W fun e w' => e = .returned (.string ⟨(hxL u).toArray⟩) ∧ Below W.heap.size W w') := Lib.hid (fun W (hb : Below w.heap.size w W) => fmt_any u W hu' (hT.below hb))
  obtain ⟨d, hd⟩ : ∃ d, d = k + 1 - (hxL u).length := ⟨_, rfl⟩
  have C2 : Hid (∀ W, Calls Tryd.prog 72 #[.string ⟨#[48]⟩, .int .i64 d] W fun e w' => e = .returned (.string ⟨(List.replicate d 48).toArray⟩) ∧ Below W.heap.size W w') := Lib.hid (fun W => by
    have h := Tryd.strings_Repeat ⟨#[48]⟩ d W (by omega) (by have : (⟨#[48]⟩ : ByteArray).size = 1 := rfl; rw [this]; omega)
    have e : Lib.repeatL [48] d = List.replicate d (48 : UInt8) := rep48 d
    have e2 : (⟨#[48]⟩ : ByteArray).data.toList = [48] := rfl
    rw [e2, e] at h
    exact h)
  have hsz : (⟨(hxL u).toArray⟩ : ByteArray).size = (hxL u).length := by show (hxL u).toArray.size = _; simp
  have hdi : (k : Int) + 1 - ((⟨(hxL u).toArray⟩ : ByteArray).size : Int) = (d : Int) := by rw [hsz]; omega
  have hdd : (⟨(List.replicate d 48).toArray⟩ : ByteArray) ++ ⟨(hxL u).toArray⟩ = ⟨(hxn (k + 1) u).toArray⟩ := by
    rw [ByteArray.mk_append_mk, hd, hp]
  have hr : (⟨(List.replicate d 48).toArray⟩ : ByteArray).size ≤ 4 := by show (List.replicate d (48 : UInt8)).toArray.size ≤ 4; simp; omega
  have hr0 : ((⟨(List.replicate d 48).toArray⟩ : ByteArray).size : Int) ≤ 4 := by omega
  have ht0 : (⟨(hxL u).toArray⟩ : ByteArray).size ≤ 4 := by omega
  have hk0 : 0 ≤ (k : Int) := by omega
  have hk3 : (k : Int) ≤ 3 := by omega
  have hs0 : ((⟨(hxL u).toArray⟩ : ByteArray).size : Int) ≤ 4 := by rw [hsz]; omega
  clear hu hu' hT hl hp hd hsz hk
  generalize (⟨(hxn (k + 1) u).toArray⟩ : ByteArray) = R at *
  generalize (⟨(List.replicate d 48).toArray⟩ : ByteArray) = r at *
  generalize (⟨(hxL u).toArray⟩ : ByteArray) = t at *
  generalize (d : Int) = d at *
  generalize (k : Int) = k at *
  generalize (u : Int) = u at *
  go_enter Tryd.func49, Tryd.ntmps49
  go_wp2_with (first
    | (go_at_call 71; (with_reducible refine (C1.out _ (Below.refl _ _)).mono ?_); rintro e w1 ⟨rfl, hb1⟩)
    | (go_at_call 72; (with_reducible refine (C2.out _).mono ?_); rintro e w2 ⟨rfl, hb2⟩))
  go_ret
  exact ⟨rfl, hb1.trans (hb2.mono hb1.size)⟩
end Go.Proofs.YtbghbfgbpdppeaaDoor
