
/- The program's signs of a text, as a list in memory of the call's own. -/
import Derived.Test.YtmpnblibbcocpaaDoorTextA
namespace Go.Proofs.YtmpnblibbcocpaaDoor
open Go.ChangeShapes Go.WideShapes Go.ChangeAt Go.RowKit Go.Lib

/-- the numbers as cells -/
abbrev cl (l : List Nat) : List Value := l.map fun (c : Nat) => Value.int .i64 (c : Int)
/-- a slice of the call's own, from block 'base' on, that reads as these numbers; where it has none, it is nil -/
def Own (w : World) (base : Nat) (v : Value) (l : List Nat) : Prop :=
  (v = .slice none 0 0 ∧ l = []) ∨
  ∃ g cap cur, v = .slice (some ⟨g, 0, none⟩) l.length cap ∧ base ≤ g ∧ w.heap[g]? = some (.cells cur 3 (0, 0)) ∧ l.length ≤ cap ∧ cap ≤ maxLen ∧ cap ≤ cur.size ∧ cur.toList.take l.length = cl l

theorem Own.of_row {w : World} {base : Nat} {v : Value} {l : List Nat} (h : w.ownsRow base 3 1 v l.length (cl l)) : Own w base v l := by
  rcases h.2 with ⟨rfl, h0⟩ | ⟨g, cap, cur, rfl, hb, hg, hn, hc, hs, ht⟩
  · exact .inl ⟨rfl, List.eq_nil_of_length_eq_zero h0⟩
  · exact .inr ⟨g, cap, cur, rfl, hb, hg, hn, hc, by omega, by simpa using ht⟩
theorem Own.clip {w : World} {base : Nat} {v : Value} {l : List Nat} (h : Own w base v l) : ∃ A c, v = .slice A l.length c ∧ l.length ≤ c ∧ Own w base (.slice A l.length l.length) l := by
  rcases h with ⟨rfl, rfl⟩ | ⟨g, cap, cur, rfl, hb, hg, hn, hc, hs, ht⟩
  · exact ⟨none, 0, rfl, Nat.le_refl _, .inl ⟨rfl, rfl⟩⟩
  · exact ⟨_, cap, rfl, hn, .inr ⟨g, _, cur, rfl, hb, hg, Nat.le_refl _, by omega, by omega, ht⟩⟩
theorem Own.below {w w' : World} {base : Nat} {v : Value} {l : List Nat} (h : Own w base v l) (hb : Below w.heap.size w w') : Own w' base v l := by
  rcases h with h | ⟨g, cap, cur, rfl, h1, hg, hn, hc, hs, ht⟩
  · exact .inl h
  · have hlt : g < w.heap.size := (Array.getElem?_eq_some_iff.1 hg).1
    exact .inr ⟨g, cap, cur, rfl, h1, (hb.block g hlt).trans hg, hn, hc, hs, ht⟩

theorem own_below {w w' : World} {B e size n : Nat} {v : Value} {xs : List Value} (h : w.ownsRow B e size v n xs) (hb : Below w.heap.size w w') : w'.ownsRow B e size v n xs := by
  refine ⟨h.1, ?_⟩
  rcases h.2 with h0 | ⟨g, cap, cur, hv, h1, hg, hr⟩
  · exact .inl h0
  · exact .inr ⟨g, cap, cur, hv, h1, (hb.block g (Array.getElem?_eq_some_iff.1 hg).1).trans hg, hr⟩

set_option maxRecDepth 100000 in
theorem signs_any (s : ByteArray) (w : World) (hs : s.size ≤ 1000000) (hT : TabsU w) :
    Calls Tryd.prog 15 #[.string s] w fun e w' => ∃ v, e = .returned v ∧ Own w' w.heap.size v (sgs (bl s)) ∧ Below w.heap.size w w' := by
  obtain ⟨i0, hi, hz0, hz1, hz2⟩ := info_parts info3
  go_enter Tryd.func15, Tryd.ntmps15
  go_wp2_with fail
  go_loopw [0, 3] (fun b v wr => ∃ (t : ByteArray) (acc : List Nat), b = .string t ∧ t.size + acc.length ≤ s.size ∧ wr.ownsRow w.heap.size 3 1 v acc.length (cl acc) ∧ Below w.heap.size w wr ∧ Hid (acc ++ sgs (bl t) = sgs (bl s))) (fun b _ _ => match b with | .string t => t.size | _ => 0)
  case atStart => exact ⟨s, [], rfl, by simp, World.ownsRow_nil _ _ _ _, Below.refl _ _, Lib.hid rfl⟩
  case round =>
    obtain ⟨t, acc, rfl, hl, hown, hb, hd⟩ := hrel
    by_cases h : 0 < t.size
    · have C := Lib.hid (sign_any t wr h (hT.below hb))
      have hw := Lib.hid (sg_le (bl t) (bl_ne h))
      have hp := sg_pos (bl t)
      have hc := Lib.hid (sgs_step (bl_ne h))
      have ht := bl_len t
      have hx := Lib.hid (bl_extract t (sg (bl t)).2)
      generalize (sg (bl t)).1 = c at *
      generalize (sg (bl t)).2 = n at *
      have hn : n ≤ t.size := by have := hw.out; omega
      go_wp2_with (first
        | (go_at_call 30; refine C.out.mono ?_; rintro e w1 ⟨rfl, hb1⟩)
        | (at_builtin; refine wpList_append_own _ rfl _ _ 33 rfl w.heap.size 3 i0 (.int .i64 0) 1 8 Tryd.underlying33 hi hz0 hz1 hz2 rfl (by decide) _ _ _ rfl ((own_below hown hb1).alloc _) ⟨w1.heap.size, 0, none⟩ 1 1 [.int .i64 c] rfl rfl ?c1 ?c2 ?c3 ?c4 ?c5 ?_))
      case c1 =>
        intro j u hj
        match j, hj with
        | 0, hj => simp at hj; subst hj; simp [Addr.add]
      case c2 => intro u hu; simp at hu; subst hu; rfl
      case c3 => unfold maxLen; omega
      case c4 => omega
      case c5 => have := hb.size; have := hb1.size; simp; omega
      · intro v' w2 hown' hgrow _
        have hbb : Below w.heap.size w w2 := ((hb.trans (hb1.mono hb.size)).alloc (by have := hb.size; have := hb1.size; omega) _).grown hgrow (by simp; have := hb.size; have := hb1.size; omega) (fun j hj => by have := (hown.lt j hj).1; omega)
        clear hgrow hown C hb hb1
        go_wp2
        have hs2 : (t.extract n t.size).size = t.size - n := by
          rw [← bl_len, hx.out, List.length_drop, bl_len]
        refine ⟨⟨t.extract n t.size, acc ++ [c], rfl, by rw [hs2]; simp; omega, by simpa [cl] using hown', hbb, ?_⟩, ?_⟩
        · exact Lib.hid (by rw [hx.out, List.append_assoc, List.singleton_append, ← hc.out, hd.out])
        · show (t.extract n t.size).size < t.size
          rw [hs2]
          omega
    · have hz : t.size = 0 := by omega
      have he : bl t = [] := List.eq_nil_of_length_eq_zero (by rw [bl_len]; exact hz)
      rw [he, sgs_nil, List.append_nil] at hd
      obtain ⟨A, c, rfl, hc, hO⟩ := (Own.of_row hown).clip
      have K := Lib.hid (clip_any A acc.length c wr hc)
      rw [hd.out] at *
      clear hown hc he
      go_wp2_with (go_at_call 31; refine K.out.mono ?_; rintro e w1 ⟨rfl, rfl⟩)
      go_ret
      exact ⟨_, rfl, hO, hb⟩
end Go.Proofs.YtmpnblibbcocpaaDoor
