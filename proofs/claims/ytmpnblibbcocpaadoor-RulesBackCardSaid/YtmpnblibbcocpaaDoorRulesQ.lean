
/- The document's reader of rules: a relation, the signs that part things. Conditions stand at each theorem. -/
import Derived.Test.YtmpnblibbcocpaaDoorRulesP
namespace Go.Proofs.YtmpnblibbcocpaaDoor
open Go.ChangeShapes Go.WideShapes Go.ChangeAt Go.RowKit Go.Lib
set_option linter.unusedVariables false

def spR (c : Int) : Bool := c == 32 || c == 10 || c == 38 || c == 60 || c == 61 || c == 47
theorem spR_nat (c : Nat) : spR (c : Int) = spc c := by
  unfold spR spc
  rw [Bool.eq_iff_iff]
  simp only [Bool.or_eq_true, beq_iff_eq]
  omega
theorem special2_0 (c : Int)  (h0 : (c == 32) = true) (w : World) : Calls Tryd.prog 36 #[.int .i64 c] w fun e w' => e = .returned (.bool true) ∧ w = w' := by
  go_enter Tryd.func36, Tryd.ntmps36
  go_wp2
  go_ret
  exact ⟨rfl, rfl⟩
theorem special2_1 (c : Int) (h0 : (c == 32) = false) (h1 : (c == 10) = true) (w : World) : Calls Tryd.prog 36 #[.int .i64 c] w fun e w' => e = .returned (.bool true) ∧ w = w' := by
  go_enter Tryd.func36, Tryd.ntmps36
  go_wp2
  go_ret
  exact ⟨rfl, rfl⟩
theorem special2_2 (c : Int) (h0 : (c == 32) = false) (h1 : (c == 10) = false) (h2 : (c == 38) = true) (w : World) : Calls Tryd.prog 36 #[.int .i64 c] w fun e w' => e = .returned (.bool true) ∧ w = w' := by
  go_enter Tryd.func36, Tryd.ntmps36
  go_wp2
  go_ret
  exact ⟨rfl, rfl⟩
theorem special2_3 (c : Int) (h0 : (c == 32) = false) (h1 : (c == 10) = false) (h2 : (c == 38) = false) (h3 : (c == 60) = true) (w : World) : Calls Tryd.prog 36 #[.int .i64 c] w fun e w' => e = .returned (.bool true) ∧ w = w' := by
  go_enter Tryd.func36, Tryd.ntmps36
  go_wp2
  go_ret
  exact ⟨rfl, rfl⟩
theorem special2_4 (c : Int) (h0 : (c == 32) = false) (h1 : (c == 10) = false) (h2 : (c == 38) = false) (h3 : (c == 60) = false) (h4 : (c == 61) = true) (w : World) : Calls Tryd.prog 36 #[.int .i64 c] w fun e w' => e = .returned (.bool true) ∧ w = w' := by
  go_enter Tryd.func36, Tryd.ntmps36
  go_wp2
  go_ret
  exact ⟨rfl, rfl⟩
theorem special2_5 (c : Int) (h0 : (c == 32) = false) (h1 : (c == 10) = false) (h2 : (c == 38) = false) (h3 : (c == 60) = false) (h4 : (c == 61) = false) (h5 : (c == 47) = true) (w : World) : Calls Tryd.prog 36 #[.int .i64 c] w fun e w' => e = .returned (.bool true) ∧ w = w' := by
  go_enter Tryd.func36, Tryd.ntmps36
  go_wp2
  go_ret
  exact ⟨rfl, rfl⟩
theorem special2_6 (c : Int) (h0 : (c == 32) = false) (h1 : (c == 10) = false) (h2 : (c == 38) = false) (h3 : (c == 60) = false) (h4 : (c == 61) = false) (h5 : (c == 47) = false) (w : World) : Calls Tryd.prog 36 #[.int .i64 c] w fun e w' => e = .returned (.bool false) ∧ w = w' := by
  go_enter Tryd.func36, Tryd.ntmps36
  go_wp2
  go_ret
  exact ⟨rfl, rfl⟩
theorem special_rf (c : Int) (w : World) : Calls Tryd.prog 36 #[.int .i64 c] w fun e w' => e = .returned (.bool (spR c)) ∧ w = w' := by
  by_cases h0 : (c == 32) = true
  · have e : spR c = true := by unfold spR; simp [h0]
    rw [e]
    exact special2_0 c  h0 w
  replace h0 : (c == 32) = false := by simpa using h0
  by_cases h1 : (c == 10) = true
  · have e : spR c = true := by unfold spR; simp [h1]
    rw [e]
    exact special2_1 c h0 h1 w
  replace h1 : (c == 10) = false := by simpa using h1
  by_cases h2 : (c == 38) = true
  · have e : spR c = true := by unfold spR; simp [h2]
    rw [e]
    exact special2_2 c h0 h1 h2 w
  replace h2 : (c == 38) = false := by simpa using h2
  by_cases h3 : (c == 60) = true
  · have e : spR c = true := by unfold spR; simp [h3]
    rw [e]
    exact special2_3 c h0 h1 h2 h3 w
  replace h3 : (c == 60) = false := by simpa using h3
  by_cases h4 : (c == 61) = true
  · have e : spR c = true := by unfold spR; simp [h4]
    rw [e]
    exact special2_4 c h0 h1 h2 h3 h4 w
  replace h4 : (c == 61) = false := by simpa using h4
  by_cases h5 : (c == 47) = true
  · have e : spR c = true := by unfold spR; simp [h5]
    rw [e]
    exact special2_5 c h0 h1 h2 h3 h4 h5 w
  replace h5 : (c == 47) = false := by simpa using h5
  have e : spR c = false := by unfold spR; simp only [h0, h1, h2, h3, h4, h5, Bool.or_false]
  rw [e]
  exact special2_6 c h0 h1 h2 h3 h4 h5 w

theorem relP_bytes {s : ByteArray} {i q : Nat} (h1 : 1 ≤ q) (h3 : q ≤ 3) (hall : ∀ t, t < q → ∃ h : i + t < s.size, (s[i + t]'h).toNat = 60) (hstop : q = 3 ∨ hd (rest s (i + q)) ≠ 60) : relP (rest s i) = (q + 1, rest s (i + q)) := by
  have st : ∀ t, t < q → rest s (i + t) = 60 :: rest s (i + t + 1) := fun t ht => by
    obtain ⟨h, e⟩ := hall t ht
    have := rest_ascii h (by omega)
    rwa [e] at this
  have : q = 1 ∨ q = 2 ∨ q = 3 := by omega
  rcases this with rfl | rfl | rfl
  · have e0 : rest s i = 60 :: rest s (i + 1) := st 0 (by omega)
    have hh : hd (rest s (i + 1)) ≠ 60 := by simpa using hstop
    rw [e0]
    rcases hM : rest s (i + 1) with _ | ⟨c, r⟩
    · simp [relP]
    · rw [hM, hd_cons] at hh
      have a3 : c ≠ 60 := by omega
      simp [relP, a3]
  · have e0 : rest s i = 60 :: rest s (i + 1) := st 0 (by omega)
    have e1 : rest s (i + 1) = 60 :: rest s (i + 2) := st 1 (by omega)
    have hh : hd (rest s (i + 2)) ≠ 60 := by simpa using hstop
    rw [e0, e1]
    rcases hM : rest s (i + 2) with _ | ⟨c, r⟩
    · simp [relP]
    · rw [hM, hd_cons] at hh
      have a3 : c ≠ 60 := by omega
      simp [relP, a3]
  · have e0 : rest s i = 60 :: rest s (i + 1) := st 0 (by omega)
    have e1 : rest s (i + 1) = 60 :: rest s (i + 2) := st 1 (by omega)
    have e2 : rest s (i + 2) = 60 :: rest s (i + 3) := st 2 (by omega)
    rw [e0, e1, e2]
    simp [relP]
theorem relP_other {M : List Nat} (h38 : hd M ≠ 38) (h61 : hd M ≠ 61) (h60 : hd M ≠ 60) : relP M = (0, M) := by
  rcases M with _ | ⟨c, r⟩
  · simp [relP]
  · rw [hd_cons] at h38 h61 h60
    have a1 : c ≠ 38 := by omega
    have a2 : c ≠ 61 := by omega
    have a3 : c ≠ 60 := by omega
    simp [relP, a1, a2, a3]

set_option maxHeartbeats 1000000 in
set_option maxRecDepth 100000 in
theorem rel_rf {b : Nat} {s : ByteArray} {i : Nat} {w : World} (h : T2 b s i w) (hi : i < s.size) :
    Calls Tryd.prog 22 #[pt b] w fun e w' => e = .returned (.int .i64 ((relP (rest s i)).1 : Nat)) ∧ ∃ k, rest s k = (relP (rest s i)).2 ∧ T2 b s k w' ∧ But b w w' := by
  obtain ⟨B, hB⟩ : ∃ B, (s[i]'hi).toNat = B := ⟨_, rfl⟩
  have c0 := h.c0
  have c1 := h.c1
  have f1 := h.f1
  have hbig := h.big
  have i0 : 0 ≤ (i : Int) := by omega
  have i1 : (i : Int) < (s.size : Int) := by omega
  have hb256 : B < 256 := by rw [← hB]; exact (s[i]'hi).toNat_lt
  by_cases h38 : B = 38
  · subst h38
    have e : relP (rest s i) = (1, rest s (i + 1)) := by rw [rest_ascii hi (by omega), hB, relP_38]
    rw [e]
    clear e
    go_enter Tryd.func22, Tryd.ntmps22
    go_wp2
    go_quiet (fail)
    go_wp2
    go_ret
    exact ⟨rfl, i + 1, rfl, (h.below (below_drewN w nq)).set (by omega) (by omega), (But.of (below_drewN w nq)).put _ _⟩
  by_cases h61 : B = 61
  · subst h61
    have e : relP (rest s i) = (5, rest s (i + 1)) := by rw [rest_ascii hi (by omega), hB, relP_61]
    rw [e]
    clear e
    go_enter Tryd.func22, Tryd.ntmps22
    go_wp2
    go_quiet (fail)
    go_wp2
    go_ret
    exact ⟨rfl, i + 1, rfl, (h.below (below_drewN w nq)).set (by omega) (by omega), (But.of (below_drewN w nq)).put _ _⟩
  have b38 : ((B : Int) == 38) = false := by rw [beq_eq_false_iff_ne]; omega
  have b61 : ((B : Int) == 61) = false := by rw [beq_eq_false_iff_ne]; omega
  by_cases h60 : B = 60
  · subst h60
    clear h38 h61 b38 b61
    go_enter Tryd.func22, Tryd.ntmps22
    go_wp2
    go_quiet (fail)
    go_wp2
    go_loopw [3] (fun n wr => ∃ q : Nat, n = .int .i64 (q : Int) ∧ 1 ≤ q ∧ q ≤ 3 ∧ T2 b s i wr ∧ But b w wr ∧ Hid (∀ t, t < q → ∃ h : i + t < s.size, (s[i + t]'h).toNat = 60)) (fun n _ => 3 - (RowKit.intOf n).toNat)
    case atStart => exact ⟨1, rfl, by omega, by omega, h.below (below_drewN w nq), .of (below_drewN w nq), Lib.hid (fun t ht => by
      obtain rfl : t = 0 := by omega
      exact ⟨hi, hB⟩)⟩
    case round =>
      obtain ⟨q, rfl, hq1, hq, hs, hb, hall⟩ := hrel
      have d0 := hs.c0
      have d1 := hs.c1
      have g1 := hs.f1
      by_cases hgo : q < 3 ∧ ∃ h : i + q < s.size, (s[i + q]'h).toNat = 60
      · obtain ⟨hq3, hiq, h60⟩ := hgo
        have hall2 : Hid (∀ t, t < q + 1 → ∃ h : i + t < s.size, (s[i + t]'h).toNat = 60) := Lib.hid (fun t ht => by
          by_cases htq : t = q
          · subst htq; exact ⟨hiq, h60⟩
          · exact hall.out t (by omega))
        have q3 : (q : Int) < 3 := by omega
        have q1 : (i : Int) + (q : Int) < (s.size : Int) := by omega
        have q2 : 0 ≤ (i : Int) + (q : Int) := by omega
        clear hall
        go_wp2
        go_quiet (fail)
        go_wp2
        refine ⟨⟨q + 1, by go_num, by omega, by omega, hs.below (below_drewN wr nq), hb.on (below_drewN wr nq), hall2⟩, by simp [RowKit.intOf]; omega⟩
      · have hstop : q = 3 ∨ hd (rest s (i + q)) ≠ 60 := by
          by_cases h3 : q = 3
          · exact .inl h3
          · refine .inr fun hh => ?_
            by_cases hiq : i + q < s.size
            · exact hgo ⟨by omega, hiq, (hd_byte hiq (c := 60) (by decide)).1 hh⟩
            · rw [rest_end (s := s) (i := i + q) (by omega)] at hh; cases hh
        have e := Lib.hid (relP_bytes hq1 hq hall.out hstop)
        have hlq : i + q ≤ s.size := by
          obtain ⟨hh, _⟩ := hall.out (q - 1) (by omega)
          omega
        clear hstop hall
        by_cases h3 : q = 3
        · subst h3
          clear hgo
          go_wp2
          go_quiet (fail)
          go_wp2
          go_ret
          rw [e.out]
          exact ⟨rfl, i + 3, rfl, (hs.below (below_drewN wr nq)).set (by omega) (by omega), (hb.on (below_drewN wr nq)).put _ _⟩
        have hq3 : q < 3 := by omega
        have q3 : (q : Int) < 3 := by omega
        by_cases hiq : i + q < s.size
        · obtain ⟨Bq, hBq⟩ : ∃ Bq, (s[i + q]'hiq).toNat = Bq := ⟨_, rfl⟩
          have b60 : ((Bq : Int) == 60) = false := by
            rw [beq_eq_false_iff_ne]
            intro hh
            exact hgo ⟨hq3, hiq, by omega⟩
          have q1 : (i : Int) + (q : Int) < (s.size : Int) := by omega
          have q2 : 0 ≤ (i : Int) + (q : Int) := by omega
          clear hgo
          go_wp2
          go_quiet (fail)
          go_wp2
          go_ret
          rw [e.out]
          refine ⟨ret1 (by omega), i + q, rfl, (hs.below (below_drewN wr nq)).set (by omega) (by omega), (hb.on (below_drewN wr nq)).put _ _⟩
        · have q1 : ¬ (i : Int) + (q : Int) < (s.size : Int) := by omega
          have q2 : 0 ≤ (i : Int) + (q : Int) := by omega
          have q6 : decide ((i : Int) + (q : Int) < (s.size : Int)) = false := by rw [decide_eq_false_iff_not]; exact q1
          have q5 : (i : Int) + (q : Int) ≤ 100000 := by omega
          clear hgo
          go_wp2
          go_quiet (fail)
          go_wp2
          go_ret
          rw [e.out]
          refine ⟨ret1 (by omega), i + q, rfl, (hs.below (below_drewN wr nq)).set (by omega) (by omega), (hb.on (below_drewN wr nq)).put _ _⟩
  · have b60 : ((B : Int) == 60) = false := by rw [beq_eq_false_iff_ne]; omega
    have e : relP (rest s i) = (0, rest s i) := relP_other (fun hh => absurd ((hd_byte hi (c := 38) (by decide)).1 hh) (by omega)) (fun hh => absurd ((hd_byte hi (c := 61) (by decide)).1 hh) (by omega)) (fun hh => absurd ((hd_byte hi (c := 60) (by decide)).1 hh) (by omega))
    rw [e]
    clear e
    go_enter Tryd.func22, Tryd.ntmps22
    go_wp2
    go_quiet (fail)
    go_wp2
    go_ret
    exact ⟨rfl, i, rfl, h.below (below_drewN w nq), .of ((below_drewN w nq))⟩
end Go.Proofs.YtmpnblibbcocpaaDoor
