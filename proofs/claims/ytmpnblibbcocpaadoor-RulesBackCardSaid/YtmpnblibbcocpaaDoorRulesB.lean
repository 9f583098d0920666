
/- The program's reader of rules: blanks left out, a relation. Conditions stand at each theorem. -/
import Derived.Test.YtmpnblibbcocpaaDoorRulesA
namespace Go.Proofs.YtmpnblibbcocpaaDoor
open Go.ChangeShapes Go.WideShapes Go.ChangeAt Go.RowKit Go.Lib
set_option linter.unusedVariables false

theorem St.inc {b : Nat} {lv av : Value} {L : List Nat} {i : Nat} {w : World} (h : St b lv av L i w) (hj : i < L.length) : St b lv av L (i + 1) (w.setCell ⟨b, 2, none⟩ (.int .i64 ((i : Int) + 1))) := by
  have := h.set (j := i + 1) (by omega)
  rwa [show (((i + 1 : Nat)) : Int) = (i : Int) + 1 by omega] at this
theorem But.put {b : Nat} {a w : World} (h : But b a w) (o : Nat) (v : Value) : But b a (w.setCell ⟨b, o, none⟩ v) := h.trans (But.set b o w v)
theorem But.on {b : Nat} {a w w' : World} (h : But b a w) (hb : Below w.heap.size w w') : But b a w' := h.trans (But.of hb)
theorem blank_at {L : List Nat} {k : Nat} (h : k < L.length) (hb : blk (L.getD k 0) = true) : blankP (L.drop k) = blankP (L.drop (k + 1)) := by
  rw [drop_at h]
  unfold blankP
  rw [List.dropWhile_cons, if_pos hb]
theorem blank_not {L : List Nat} {k : Nat} (h : k < L.length) (hb : blk (L.getD k 0) = false) : blankP (L.drop k) = L.drop k := by
  rw [drop_at h]
  unfold blankP
  rw [List.dropWhile_cons, if_neg (by rw [hb]; simp)]
theorem blank_end {L : List Nat} {k : Nat} (h : L.length ≤ k) : blankP (L.drop k) = L.drop k := by
  rw [List.drop_eq_nil_of_le h]; rfl

set_option maxRecDepth 100000 in
theorem blank_rd {b : Nat} {lv av : Value} {L : List Nat} {i : Nat} {w : World} (h : St b lv av L i w) :
    Calls Tryd.prog 17 #[pt b] w fun e w' => e = .returned (.tuple #[]) ∧ ∃ k, L.drop k = blankP (L.drop i) ∧ St b lv av L k w' ∧ But b w w' := by
  go_enter Tryd.func17, Tryd.ntmps17
  go_wp2_with (first | (go_at_call 18; (with_reducible refine (sign_rd h).mono ?_); rintro e w1 ⟨rfl, hb1⟩))
  go_loopw [2] (fun c wr => ∃ k, c = .int .i64 (hd (L.drop k)) ∧ St b lv av L k wr ∧ But b w wr ∧ Hid (blankP (L.drop i) = blankP (L.drop k))) (fun _ wr => L.length - ixOf b wr)
  case atStart => exact ⟨i, rfl, h.below hb1, .of hb1, Lib.hid rfl⟩
  case round =>
    obtain ⟨k, rfl, hs, hb, hd'⟩ := hrel
    have hix := hs.rs.ix
    by_cases hk : k < L.length
    · have c2 := hs.rs.c2
      have f2 := hs.rs.f2
      have hbig := hs.big
      have HS := hs.inc hk
      have C := Lib.hid (sign_rd HS)
      have HB := hb.put 2 (.int .i64 ((k : Int) + 1))
      have hm : L.length - (k + 1) < L.length - k := by omega
      rw [hd_at hk]
      by_cases hx : blk (L.getD k 0) = true
      · have hn := Lib.hid (hd'.out.trans (blank_at hk hx))
        rw [blk, Bool.or_eq_true, beq_iff_eq, beq_iff_eq] at hx
        clear hd' h hs hb
        rcases hx with hx | hx
        all_goals
          rw [hx]
          go_wp2_with (first | (go_at_call 18; (with_reducible refine C.out.mono ?_); rintro e w5 ⟨rfl, hb5⟩))
          refine ⟨⟨k + 1, rfl, HS.below hb5, HB.on hb5, hn⟩, ?_⟩
          rw [(HS.below hb5).rs.ix, hix]
          exact hm
      · have hx0 : blk (L.getD k 0) = false := by simpa using hx
        have hn := blank_not hk hx0
        rw [blk, Bool.or_eq_false_iff, beq_eq_false_iff_ne, beq_eq_false_iff_ne] at hx0
        have x1 : (((L.getD k 0 : Nat) : Int) == 32) = false := by rw [beq_eq_false_iff_ne]; omega
        have x2 : (((L.getD k 0 : Nat) : Int) == 10) = false := by rw [beq_eq_false_iff_ne]; omega
        clear hx hx0 C HS HB
        generalize L.getD k 0 = x at *
        go_wp2
        go_end0
        exact ⟨rfl, k, by rw [hd'.out, hn], hs, hb⟩
    · rw [hd_end (L := L) (i := k) (by omega)]
      go_wp2
      go_end0
      exact ⟨rfl, k, by rw [hd'.out, blank_end (L := L) (k := k) (by omega)], hs, hb⟩
end Go.Proofs.YtmpnblibbcocpaaDoor
