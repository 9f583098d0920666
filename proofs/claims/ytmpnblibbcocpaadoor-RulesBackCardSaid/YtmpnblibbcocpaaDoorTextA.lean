
/- The program's signs of a text: what utext.sign and utext.Signs return, for every text, where the tables of unicode/utf8 stand. -/
import Derived.Test.YtmpnblibbcocpaaDoorTextN
import Derived.Test.YtmpnblibbcocpaaDoorTabsU
import Derived.WalkKit
import Derived.Lib.Hide
import Derived.OwnWalk
import Derived.Below
namespace Go.Proofs.YtmpnblibbcocpaaDoor
open Go.ChangeShapes Go.WideShapes Go.ChangeAt Go.RowKit Go.Lib

theorem ret2 {k k' : IntKind} {a b c d : Int} (h : a = b) (h' : c = d) : Ending.returned (.tuple #[.int k a, .int k' c]) = .returned (.tuple #[.int k b, .int k' d]) := by rw [h, h']
theorem ret1 {k : IntKind} {a b : Int} (h : a = b) : Ending.returned (.int k a) = .returned (.int k b) := by rw [h]

theorem info3 : (Tryd.prog.info? 3).map (fun i => (i.zero, i.size, i.bytes)) = some (some (.int .i64 0), 1, 8) := by kernel_rfl

/-- the bytes of a string -/
abbrev bl (s : ByteArray) : List UInt8 := s.data.toList
theorem bl_len (s : ByteArray) : (bl s).length = s.size := by simp [bl]
theorem bl_ne {s : ByteArray} (h : 0 < s.size) : bl s ≠ [] := by
  intro e
  have := bl_len s
  rw [e] at this
  simp at this
  omega
theorem dec_eq {s : ByteArray} (h : 0 < s.size) : decodeGo s = decodeL (bl s) := by
  have := decodeL_drop s 0
  rw [List.drop_zero] at this
  unfold decodeGo
  rw [if_neg (by omega), this]
theorem bl_extract (s : ByteArray) (n : Nat) : bl (s.extract n s.size) = (bl s).drop n := by
  show (s.extract n s.size).data.toList = _
  rw [extract_data, List.take_of_length_le (by rw [List.length_drop]; simp)]
theorem bl_zero {s : ByteArray} (h : 0 < s.size) : (bl s).getD 0 0 = s[0]'h := by
  have hl : 0 < (bl s).length := by rw [bl_len]; exact h
  rw [List.getD, List.getElem?_eq_getElem hl]
  rfl
theorem sg_bad' {s : ByteArray} (h : 0 < s.size) (h1 : decodeGo s = (65533, 1)) : sg (bl s) = (1114112 + (s[0]'h).toNat, 1) := by
  rw [dec_eq h, decodeL_N] at h1
  have h2 : decodeN (bl s).length (bt (bl s) 0) (bt (bl s) 1) (bt (bl s) 2) (bt (bl s) 3) = (65533, 1) := h1
  unfold sg sgN
  rw [if_pos h2]
  unfold bt
  rw [bl_zero h]
theorem sg_good' {s : ByteArray} (h : 0 < s.size) (h1 : decodeGo s ≠ (65533, 1)) : sg (bl s) = decodeGo s := by
  rw [dec_eq h] at *
  rw [decodeL_N] at *
  have h2 : ¬ decodeN (bl s).length (bt (bl s) 0) (bt (bl s) 1) (bt (bl s) 2) (bt (bl s) 3) = (65533, 1) := h1
  unfold sg sgN
  rw [if_neg h2]
  rfl
theorem sg_w4 (l : List UInt8) : (sg l).2 ≤ 4 := by
  unfold sg
  rcases sgN_shape l.length (bt l 0) (bt l 1) (bt l 2) (bt l 3) with ⟨c, e⟩ | ⟨c1, c2, c3, cv, e⟩ | ⟨c1, c2, c3, c4, cv, cs, e⟩ | ⟨c1, c2, c3, c4, c5, cv, cw, e⟩ | ⟨_, _, e⟩ <;> rw [e] <;> simp only <;> omega
theorem sg_max (l : List UInt8) : (sg l).1 ≤ 1114367 := by
  have := sg_is l
  unfold isSg at this
  rw [decide_eq_true_eq] at this
  omega

set_option maxRecDepth 100000 in
theorem sign_any (s : ByteArray) (w : World) (hs : 0 < s.size) (hT : TabsU w) :
    Calls Tryd.prog 30 #[.string s] w fun e w' => e = .returned (.tuple #[.int .i64 (sg (bl s)).1, .int .i64 (sg (bl s)).2]) ∧ Below w.heap.size w w' := by
  have C := Tryd.utf8_DecodeRuneInString s w hT
  by_cases h1 : decodeGo s = (65533, 1)
  · rw [sg_bad' hs h1]
    rw [h1] at C
    replace C := Lib.hid C
    clear h1 hT
    go_enter Tryd.func30, Tryd.ntmps30
    go_wp2_with (go_at_call 45; refine C.out.mono ?_; rintro e w' ⟨rfl, hb⟩)
    go_ret2
    have h0 := (s[0]'hs).toNat_lt
    exact ⟨ret2 (by unfold wrap64; omega) rfl, hb⟩
  · rw [sg_good' hs h1]
    have hr : (decodeGo s).1 ≤ 1114111 := by rw [dec_eq hs]; exact decodeL_rune _
    have hw : (decodeGo s).2 ≤ 4 := by rw [dec_eq hs, ← sg_width]; exact sg_w4 _
    replace C := Lib.hid C
    clear hT
    generalize decodeGo s = d at *
    obtain ⟨x, y⟩ := d
    simp only at *
    by_cases hx : x = 65533
    · subst hx
      have hy : y ≠ 1 := fun e => h1 (by rw [e])
      go_enter Tryd.func30, Tryd.ntmps30
      go_wp2_with (go_at_call 45; refine C.out.mono ?_; rintro e w' ⟨rfl, hb⟩)
      go_ret2
      exact ⟨rfl, hb⟩
    · go_enter Tryd.func30, Tryd.ntmps30
      go_wp2_with (go_at_call 45; refine C.out.mono ?_; rintro e w' ⟨rfl, hb⟩)
      go_ret2
      exact ⟨rfl, hb⟩

theorem clip_any (A : Option Addr) (n c : Nat) (w : World) (hn : n ≤ c) :
    Calls Tryd.prog 31 #[.slice A n c] w fun e w' => e = .returned (.slice A n n) ∧ w = w' := by
  go_enter Tryd.func31, Tryd.ntmps31
  go_wp2
  go_ret
  exact ⟨rfl, rfl⟩
end Go.Proofs.YtmpnblibbcocpaaDoor
