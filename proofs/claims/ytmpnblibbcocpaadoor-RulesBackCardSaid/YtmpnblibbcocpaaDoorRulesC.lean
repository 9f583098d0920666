
/- The program's reader of rules: a relation. Conditions stand at each theorem. -/
import Derived.Test.YtmpnblibbcocpaaDoorRulesB
namespace Go.Proofs.YtmpnblibbcocpaaDoor
open Go.ChangeShapes Go.WideShapes Go.ChangeAt Go.RowKit Go.Lib
set_option linter.unusedVariables false

theorem relP_38 {r : List Nat} : relP (38 :: r) = (1, r) := by simp [relP]
theorem relP_61 {r : List Nat} : relP (61 :: r) = (5, r) := by simp [relP]
theorem hd_cons (c : Nat) (r : List Nat) : hd (c :: r) = (c : Int) := rfl
/-- as many '<' as there are, three at the most -/
theorem relP_run {L : List Nat} {i q : Nat} (hq : q ≤ 3) (hall : ∀ t, t < q → i + t < L.length ∧ L.getD (i + t) 0 = 60) (hstop : q = 3 ∨ hd (L.drop (i + q)) ≠ 60)
    (h38 : q = 0 → hd (L.drop i) ≠ 38) (h61 : q = 0 → hd (L.drop i) ≠ 61) : relP (L.drop i) = (if q = 0 then 0 else q + 1, L.drop (i + q)) := by
  have : q = 0 ∨ q = 1 ∨ q = 2 ∨ q = 3 := by omega
  rcases this with rfl | rfl | rfl | rfl
  · have h1 := h38 rfl
    have h2 := h61 rfl
    have h3 : hd (L.drop i) ≠ 60 := by simpa using hstop
    rcases hM : L.drop i with _ | ⟨c, r⟩
    · simp [relP]
    · rw [hM] at h1 h2 h3
      rw [hd_cons] at h1 h2 h3
      have a1 : c ≠ 38 := by omega
      have a2 : c ≠ 61 := by omega
      have a3 : c ≠ 60 := by omega
      simp [relP, a1, a2, a3]
  · obtain ⟨l0, e0⟩ := hall 0 (by omega)
    have e0' : L.getD i 0 = 60 := e0
    have h3 : hd (L.drop (i + 1)) ≠ 60 := by simpa using hstop
    rw [drop_at (show i < L.length from l0), e0']
    rcases hM : L.drop (i + 1) with _ | ⟨c, r⟩
    · simp [relP]
    · rw [hM, hd_cons] at h3
      have a3 : c ≠ 60 := by omega
      simp [relP, a3]
  · obtain ⟨l0, e0⟩ := hall 0 (by omega)
    obtain ⟨l1, e1⟩ := hall 1 (by omega)
    have e0' : L.getD i 0 = 60 := e0
    have h3 : hd (L.drop (i + 2)) ≠ 60 := by simpa using hstop
    rw [drop_at (show i < L.length from l0), e0', drop_at l1, e1]
    rcases hM : L.drop (i + 2) with _ | ⟨c, r⟩
    · simp [relP]
    · rw [hM, hd_cons] at h3
      have a3 : c ≠ 60 := by omega
      simp [relP, a3]
  · obtain ⟨l0, e0⟩ := hall 0 (by omega)
    obtain ⟨l1, e1⟩ := hall 1 (by omega)
    obtain ⟨l2, e2⟩ := hall 2 (by omega)
    have e0' : L.getD i 0 = 60 := e0
    rw [drop_at (show i < L.length from l0), e0', drop_at l1, e1, drop_at (show i + 1 + 1 < L.length from l2), show L.getD (i + 1 + 1) 0 = 60 from e2]
    simp [relP]

set_option maxRecDepth 100000 in
theorem relation_rd {b : Nat} {lv av : Value} {L : List Nat} {i : Nat} {w : World} (h : St b lv av L i w) :
    Calls Tryd.prog 33 #[pt b] w fun e w' => e = .returned (.int .i64 ((relP (L.drop i)).1 : Nat)) ∧ ∃ k, L.drop k = (relP (L.drop i)).2 ∧ St b lv av L k w' ∧ But b w w' := by
  have S1 := sign_rd h
  have hbig := h.big
  by_cases h38 : hd (L.drop i) = 38
  · have hi : i < L.length := by
      apply Classical.byContradiction
      intro hn
      rw [hd_end (L := L) (i := i) (by omega)] at h38
      cases h38
    rw [h38] at S1
    replace S1 := Lib.hid S1
    rw [hd_at hi] at h38
    have e : relP (L.drop i) = (1, L.drop (i + 1)) := by
      rw [drop_at hi, show L.getD i 0 = 38 by omega, relP_38]
    rw [e]
    clear h38 e
    go_enter Tryd.func33, Tryd.ntmps33
    go_wp2_with (first | (go_at_call 18; (with_reducible refine S1.out.mono ?_); rintro e w1 ⟨rfl, hb1⟩; have h1 := h.below hb1; have c2 := h1.rs.c2; have f2 := h1.rs.f2))
    go_ret
    exact ⟨rfl, i + 1, rfl, h1.inc hi, (But.of hb1).put _ _⟩
  by_cases h61 : hd (L.drop i) = 61
  · have hi : i < L.length := by
      apply Classical.byContradiction
      intro hn
      rw [hd_end (L := L) (i := i) (by omega)] at h61
      cases h61
    rw [h61] at S1
    replace S1 := Lib.hid S1
    rw [hd_at hi] at h61
    have e : relP (L.drop i) = (5, L.drop (i + 1)) := by
      rw [drop_at hi, show L.getD i 0 = 61 by omega, relP_61]
    rw [e]
    clear h61 e h38
    go_enter Tryd.func33, Tryd.ntmps33
    go_wp2_with (first | (go_at_call 18; (with_reducible refine S1.out.mono ?_); rintro e w1 ⟨rfl, hb1⟩; have h1 := h.below hb1; have c2 := h1.rs.c2; have f2 := h1.rs.f2))
    go_ret
    exact ⟨rfl, i + 1, rfl, h1.inc hi, (But.of hb1).put _ _⟩
  obtain ⟨z, hz⟩ : ∃ z, hd (L.drop i) = z := ⟨_, rfl⟩
  rw [hz] at S1
  have z1 : (z == 38) = false := by rw [beq_eq_false_iff_ne, ← hz]; exact h38
  have z2 : (z == 61) = false := by rw [beq_eq_false_iff_ne, ← hz]; exact h61
  replace S1 := Lib.hid S1
  replace hz := Lib.hid hz
  replace h38 := Lib.hid h38
  replace h61 := Lib.hid h61
  go_enter Tryd.func33, Tryd.ntmps33
  go_wp2_with (first | (go_at_call 18; (with_reducible refine S1.out.mono ?_); rintro e w1 ⟨rfl, hb1⟩))
  clear S1
  go_loopw [3] (fun n wr => ∃ q : Nat, n = .int .i64 (q : Int) ∧ q ≤ 3 ∧ St b lv av L (i + q) wr ∧ But b w wr ∧ Hid (∀ t, t < q → i + t < L.length ∧ L.getD (i + t) 0 = 60)) (fun n _ => 3 - (RowKit.intOf n).toNat)
  case atStart => exact ⟨0, rfl, by omega, h.below hb1, .of hb1, Lib.hid (fun t ht => absurd ht (by omega))⟩
  case round =>
    obtain ⟨q, rfl, hq, hs, hb, hall⟩ := hrel
    by_cases hgo : q < 3 ∧ hd (L.drop (i + q)) = 60
    · obtain ⟨hq3, h60⟩ := hgo
      have C := sign_rd hs
      rw [h60] at C
      replace C := Lib.hid C
      have hi : i + q < L.length := by
        apply Classical.byContradiction
        intro hn
        rw [hd_end (L := L) (i := i + q) (by omega)] at h60
        cases h60
      rw [hd_at hi] at h60
      have hall2 : Hid (∀ t, t < q + 1 → i + t < L.length ∧ L.getD (i + t) 0 = 60) := Lib.hid (fun t ht => by
        by_cases htq : t = q
        · subst htq
          exact ⟨hi, by omega⟩
        · exact hall.out t (by omega))
      clear hall h60
      go_wp2_with (first | (go_at_call 18; (with_reducible refine C.out.mono ?_); rintro e w5 ⟨rfl, hb5⟩; have h5 := hs.below hb5; have c2 := h5.rs.c2; have f2 := h5.rs.f2))
      have h6 := h5.inc hi
      refine ⟨⟨q + 1, by go_num, by omega, ?_, (hb.on hb5).put _ _, hall2⟩, by simp [RowKit.intOf]; omega⟩
      first | exact h6 | simpa using h6
    · have hstop : q = 3 ∨ hd (L.drop (i + q)) ≠ 60 := by
        by_cases h3 : q = 3
        · exact .inl h3
        · exact .inr fun hh => hgo ⟨by omega, hh⟩
      have e := Lib.hid (relP_run hq hall.out hstop (fun _ => h38.out) (fun _ => h61.out))
      have C := sign_rd hs
      obtain ⟨y, hy⟩ : ∃ y, hd (L.drop (i + q)) = y := ⟨_, rfl⟩
      rw [hy] at C hstop
      replace C := Lib.hid C
      clear hall hgo
      by_cases h3 : q = 3
      · subst h3
        clear hstop
        go_wp2
        go_ret
        rw [e.out]
        exact ⟨rfl, i + 3, rfl, hs, hb⟩
      · have hy2 : (y == 60) = false := by
          rw [beq_eq_false_iff_ne]
          rcases hstop with hh | hh
          · exact absurd hh h3
          · exact hh
        have hq3 : q < 3 := by omega
        clear hstop h3 hy
        by_cases h0 : q = 0
        · subst h0
          go_wp2_with (first | (go_at_call 18; (with_reducible refine C.out.mono ?_); rintro e w5 ⟨rfl, hb5⟩))
          go_ret
          rw [e.out]
          exact ⟨rfl, i + 0, rfl, hs.below hb5, hb.on hb5⟩
        · have n0 : ((q : Int) == 0) = false := by rw [beq_eq_false_iff_ne]; omega
          go_wp2_with (first | (go_at_call 18; (with_reducible refine C.out.mono ?_); rintro e w5 ⟨rfl, hb5⟩))
          go_ret
          rw [e.out]
          refine ⟨?_, i + q, rfl, hs.below hb5, hb.on hb5⟩
          simp only [h0, if_false]
          exact ret1 (by omega)
end Go.Proofs.YtmpnblibbcocpaaDoor
