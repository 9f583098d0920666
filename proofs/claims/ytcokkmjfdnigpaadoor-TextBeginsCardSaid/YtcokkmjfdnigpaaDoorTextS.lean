/- A text's first signs (utext.Begin): what it returns, where the tables of unicode/utf8 stand. -/
import Derived.Test.YtcokkmjfdnigpaaDoorTextL
import Derived.Test.YtcokkmjfdnigpaaDoorTextH
namespace Go.Proofs.YtcokkmjfdnigpaaDoor
open Go.ChangeShapes Go.WideShapes Go.ChangeAt Go.RowKit Go.Lib
set_option linter.unusedVariables false

theorem cutN_nil (k : Nat) : cutN k [] = 0 := by cases k <;> simp [cutN]
theorem cutN_succ : ∀ (k : Nat) (l : List UInt8), l.drop (cutN k l) ≠ [] → cutN (k + 1) l = cutN k l + (sg (l.drop (cutN k l))).2
  | 0, l, h => by
    have h0 : l ≠ [] := by simpa [cutN] using h
    have e0 : cutN 0 l = 0 := rfl
    have e1 : cutN (0 + 1) l = (sg l).2 + cutN 0 (l.drop (sg l).2) := by
      conv => lhs; unfold cutN
      rw [if_neg h0]
    rw [e1, e0, List.drop_zero]
    have e2 : cutN 0 (l.drop (sg l).2) = 0 := rfl
    rw [e2]
    omega
  | k + 1, l, h => by
    by_cases h0 : l = []
    · subst h0
      simp at h
    · have e : ∀ j, cutN (j + 1) l = (sg l).2 + cutN j (l.drop (sg l).2) := fun j => by
        conv => lhs; unfold cutN
        rw [if_neg h0]
      rw [e (k + 1), e k] at *
      rw [← List.drop_drop] at *
      rw [cutN_succ k _ h]
      omega
theorem cut_mono : ∀ (k : Nat) (l : List UInt8), cutN k l ≤ cutN (k + 1) l
  | 0, l => Nat.zero_le _
  | k + 1, l => by
    by_cases h0 : l = []
    · subst h0
      rw [cutN_nil]
      exact Nat.zero_le _
    · have e : ∀ j, cutN (j + 1) l = (sg l).2 + cutN j (l.drop (sg l).2) := fun j => by
        conv => lhs; unfold cutN
        rw [if_neg h0]
      rw [e (k + 1), e k]
      have := cut_mono k (l.drop (sg l).2)
      omega
theorem cutN_done : ∀ (m k : Nat) (l : List UInt8), l.drop (cutN k l) = [] → cutN (k + m) l = cutN k l
  | 0, k, l, h => rfl
  | m + 1, k, l, h => by
    have ih := cutN_done m k l h
    have h1 : l.length ≤ cutN k l := by
      have := congrArg List.length h
      rw [List.length_drop, List.length_nil] at this
      omega
    have h2 := cut_le (k + m + 1) l
    have h3 := cut_mono (k + m) l
    rw [← Nat.add_assoc]
    omega

set_option maxRecDepth 100000 in
theorem Begin_any (b : ByteArray) (n : Int) (w : World) (hs : b.size ≤ 100000) (hn : n ≤ 9223372036854775807) (hn0 : -9223372036854775808 ≤ n) (hT : TabsU w) :
    Calls Tryd.prog 22 #[.string b, .int .i64 n] w fun e w' => e = .returned (.string (b.extract 0 (cutN n.toNat (bl b)))) ∧ Below w.heap.size w w' := by
  obtain ⟨M, hM⟩ : ∃ M, cutN n.toNat (bl b) = M := ⟨_, rfl⟩
  rw [hM]
  replace hM := Lib.hid hM
  go_enter Tryd.func22, Tryd.ntmps22
  go_wp2_with fail
  go_loopw [1, 5] (fun i t wr => ∃ (j : Nat) (r : ByteArray), i = .int .i64 (n - j) ∧ t = .string r ∧ j ≤ n.toNat ∧ Hid (bl r = (bl b).drop (cutN j (bl b))) ∧ Below w.heap.size w wr) (fun i _ _ => (RowKit.intOf i).toNat)
  case atStart => exact ⟨0, b, by simp, rfl, Nat.zero_le _, Lib.hid (by simp [cutN]), Below.refl _ _⟩
  case round =>
    obtain ⟨j, r, rfl, rfl, hj, hr, hw⟩ := hrel
    have hle := cut_le j (bl b)
    have hrl : r.size = b.size - cutN j (bl b) := by rw [← bl_len r, hr.out, List.length_drop, bl_len]
    rw [bl_len] at hle
    replace hrl := Lib.hid hrl
    have hnil := str_nil r
    by_cases h : 0 < n - j
    · by_cases h2 : 0 < r.size
      · rw [decide_eq_false (by omega)] at hnil
        have C := Lib.hid (sign_any r wr h2 (hT.below hw))
        have hne := bl_ne h2
        have hsl := Lib.hid (sg_le (bl r) hne)
        have hx := Lib.hid (bl_extract r (sg (bl r)).2)
        rw [hr.out] at hne
        have hc := Lib.hid (cutN_succ j (bl b) hne)
        have hlr := bl_len r
        have hq := hr.out
        rw [← hq] at hc
        clear hq hne
        generalize (sg (bl r)).1 = c at *
        generalize (sg (bl r)).2 = k at *
        have hk : k ≤ r.size := by have := hsl.out; omega
        go_wp2_with (go_at_call 34; refine C.out.mono ?_; rintro e w1 ⟨rfl, hb1⟩)
        refine ⟨⟨j + 1, r.extract k r.size, by congr 1; omega, rfl, by omega, Lib.hid ?_, hw.trans (hb1.mono hw.size)⟩, by simp [RowKit.intOf]; omega⟩
        rw [hx.out, hr.out, List.drop_drop, hc.out]
      · rw [decide_eq_true (by omega)] at hnil
        have hd : (bl b).drop (cutN j (bl b)) = [] := by rw [← hr.out]; exact List.eq_nil_of_length_eq_zero (by rw [bl_len]; omega)
        have hcd := cutN_done (n.toNat - j) j (bl b) hd
        rw [show j + (n.toNat - j) = n.toNat by omega] at hcd
        have hMm : M = cutN j (bl b) := by rw [← hM.out, hcd]
        have e := Lib.hid (show b.size - r.size = M by have := hrl.out; omega)
        have hrb : r.size ≤ b.size := by have := hrl.out; omega
        clear hd hcd hr hMm
        go_wp2
        go_ret
        exact ⟨by rw [← e.out]; rfl, hw⟩
    · have hjn : j = n.toNat := by omega
      have hMm : M = cutN j (bl b) := by rw [← hM.out, hjn]
      have e := Lib.hid (show b.size - r.size = M by have := hrl.out; omega)
      have hrb : r.size ≤ b.size := by have := hrl.out; omega
      clear hr hMm
      go_wp2
      go_ret
      exact ⟨by rw [← e.out]; rfl, hw⟩
end Go.Proofs.YtcokkmjfdnigpaaDoor
