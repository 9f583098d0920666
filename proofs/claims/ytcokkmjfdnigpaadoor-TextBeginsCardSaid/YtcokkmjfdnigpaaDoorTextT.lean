/- The program's signs of a text with no room behind them; two such lists one behind the other by append. -/
import Derived.Test.YtcokkmjfdnigpaaDoorTextS
import Derived.ArgAppend
namespace Go.Proofs.YtcokkmjfdnigpaaDoor
open Go.ChangeShapes Go.WideShapes Go.ChangeAt Go.RowKit Go.Lib
set_option linter.unusedVariables false

set_option maxRecDepth 100000 in
theorem signs_cap (s : ByteArray) (w : World) (hs : s.size ≤ 1000000) (hT : TabsU w) :
    Calls Tryd.prog 14 #[.string s] w fun e w' => ∃ A, e = .returned (.slice A (sgs (bl s)).length (sgs (bl s)).length) ∧ Own w' w.heap.size (.slice A (sgs (bl s)).length (sgs (bl s)).length) (sgs (bl s)) ∧ Below w.heap.size w w' := by
  obtain ⟨i0, hi, hz0, hz1, hz2⟩ := info_parts info3
  go_enter Tryd.func14, Tryd.ntmps14
  go_wp2_with fail
  go_loopw [0, 3] (fun b v wr => ∃ (t : ByteArray) (acc : List Nat), b = .string t ∧ t.size + acc.length ≤ s.size ∧ wr.ownsRow w.heap.size 3 1 v acc.length (cl acc) ∧ Below w.heap.size w wr ∧ Hid (acc ++ sgs (bl t) = sgs (bl s))) (fun b _ _ => match b with | .string t => t.size | _ => 0)
  case atStart => exact ⟨s, [], rfl, by simp, World.ownsRow_nil _ _ _ _, Below.refl _ _, Lib.hid rfl⟩
  case round =>
    obtain ⟨t, acc, rfl, hl, hown, hb, hd⟩ := hrel
    by_cases h : 0 < t.size
    · have C := Lib.hid (sign_any t wr h (hT.below hb))
      have hw := Lib.hid (sg_le (bl t) (bl_ne h))
      have hp := sg_pos (bl t)
      have hc := Lib.hid (sgs_step (bl_ne h))
      have ht := bl_len t
      have hx := Lib.hid (bl_extract t (sg (bl t)).2)
      generalize (sg (bl t)).1 = c at *
      generalize (sg (bl t)).2 = n at *
      have hn : n ≤ t.size := by have := hw.out; omega
      go_wp2_with (first
        | (go_at_call 34; refine C.out.mono ?_; rintro e w1 ⟨rfl, hb1⟩)
        | (at_builtin; refine wpList_append_own _ rfl _ _ 22 rfl w.heap.size 3 i0 (.int .i64 0) 1 8 Tryd.underlying22 hi hz0 hz1 hz2 rfl (by decide) _ _ _ rfl ((own_below hown hb1).alloc _) ⟨w1.heap.size, 0, none⟩ 1 1 [.int .i64 c] rfl rfl ?c1 ?c2 ?c3 ?c4 ?c5 ?_))
      case c1 =>
        intro j u hj
        match j, hj with
        | 0, hj => simp at hj; subst hj; simp [Addr.add]
      case c2 => intro u hu; simp at hu; subst hu; rfl
      case c3 => unfold maxLen; omega
      case c4 => omega
      case c5 => have := hb.size; have := hb1.size; simp; omega
      · intro v' w2 hown' hgrow _
        have hbb : Below w.heap.size w w2 := ((hb.trans (hb1.mono hb.size)).alloc (by have := hb.size; have := hb1.size; omega) _).grown hgrow (by simp; have := hb.size; have := hb1.size; omega) (fun j hj => by have := (hown.lt j hj).1; omega)
        clear hgrow hown C hb hb1
        go_wp2
        have hs2 : (t.extract n t.size).size = t.size - n := by
          rw [← bl_len, hx.out, List.length_drop, bl_len]
        refine ⟨⟨t.extract n t.size, acc ++ [c], rfl, by rw [hs2]; simp; omega, by simpa [cl] using hown', hbb, ?_⟩, ?_⟩
        · exact Lib.hid (by rw [hx.out, List.append_assoc, List.singleton_append, ← hc.out, hd.out])
        · show (t.extract n t.size).size < t.size
          rw [hs2]
          omega
    · have hz : t.size = 0 := by omega
      have he : bl t = [] := List.eq_nil_of_length_eq_zero (by rw [bl_len]; exact hz)
      rw [he, sgs_nil, List.append_nil] at hd
      obtain ⟨A, c, rfl, hc, hO⟩ := (Own.of_row hown).clip
      have K := Lib.hid (clip_any A acc.length c wr hc)
      rw [hd.out] at *
      clear hown hc he
      go_wp2_with (go_at_call 35; refine K.out.mono ?_; rintro e w1 ⟨rfl, rfl⟩)
      go_ret
      exact ⟨_, rfl, hO, hb⟩

/-- the cells of a list of the call's own -/
theorem Own.cells {w : World} {base g cap n : Nat} {L : List Nat} (h : Own w base (.slice (some ⟨g, 0, none⟩) n cap) L) : n = L.length ∧ L.length ≤ cap ∧ ∀ j u, (cl L)[j]? = some u → w.cell? ((⟨g, 0, none⟩ : Addr).add j) = some u := by
  rcases h with ⟨h, _⟩ | ⟨g', cap', cur, hv, hb, hg, hn, hc, hs, ht⟩
  · cases h
  · injection hv with e1 e2 e3
    injection e1 with e1
    injection e1 with e1
    subst e1 e2 e3
    refine ⟨rfl, hn, fun j u hu => ?_⟩
    have hj : j < L.length := by
      have := (List.getElem?_eq_some_iff.1 hu).1
      simpa [cl] using this
    have ha : (⟨g, 0, none⟩ : Addr).add j = ⟨g, j, none⟩ := by unfold Addr.add; split <;> simp_all
    rw [ha, cell_of_row w g j cur 3 (0, 0) hg, ← Array.getElem?_toList]
    have e : (cur.toList.take L.length)[j]? = (cl L)[j]? := by rw [ht]
    rw [List.getElem?_take_of_lt hj] at e
    rw [e, hu]
end Go.Proofs.YtcokkmjfdnigpaaDoor
