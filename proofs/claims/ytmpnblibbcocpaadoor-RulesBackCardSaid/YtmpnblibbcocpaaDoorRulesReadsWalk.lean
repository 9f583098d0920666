
/- RulesReads is true of every input: the walk, where the listed variables stand. -/
import Derived.Test.YtmpnblibbcocpaaDoorRulesT
namespace Go.Proofs.YtmpnblibbcocpaaDoor
open Go.ChangeShapes Go.WideShapes Go.ChangeAt Go.RowKit Go.Lib
set_option linter.unusedVariables false

theorem finP_le {acc q : List Nat} (h : finP acc = some q) (ha : acc.length ≤ 3) : q.length ≤ 3 := by rw [← fin_eq h]; exact ha
theorem seqP_le3 : ∀ (n : Nat) (M acc : List Nat) (M' q : List Nat), M.length ≤ n → acc.length ≤ 3 → seqP M acc = (M', some q) → q.length ≤ 3
  | _, [], acc, M', q, _, ha, h => by
    rw [seqP_nil] at h
    exact finP_le (Prod.mk.inj h).2 ha
  | 0, _ :: _, _, _, _, h, _, _ => by simp at h
  | n + 1, c :: r, acc, M', q, hn, ha, h => by
    have hn' : r.length ≤ n := by simpa using hn
    by_cases h1 : spc c = true
    · rw [seqP_spc h1] at h
      exact finP_le (Prod.mk.inj h).2 ha
    · have h1 : spc c = false := by simpa using h1
      by_cases h2 : acc.length = 3
      · rw [seqP_long h1 h2] at h
        cases (Prod.mk.inj h).2
      · by_cases h3 : c = 92
        · subst h3
          rcases r with _ | ⟨d, r⟩
          · rw [seqP_end h2] at h
            cases (Prod.mk.inj h).2
          · rw [seqP_back h2] at h
            exact seqP_le3 n r _ M' q (by simp at hn'; omega) (by simp; omega) h
        · rw [seqP_sign h1 h2 h3] at h
          exact seqP_le3 n r _ M' q hn' (by simp; omega) h
theorem ruleP_le3 {first : Bool} {M M' : List Nat} {x : Rl} (h : ruleP first M = (M', some x)) : x.seq.length ≤ 3 ∧ x.exp.length ≤ 3 := by
  unfold ruleP at h
  split at h
  · cases h
  split at h
  · cases h
  rename_i M2 q hq
  have h3 := seqP_le3 _ _ [] _ _ (Nat.le_refl _) (by simp) hq
  split at h
  · obtain ⟨_, h⟩ := Prod.mk.inj h
    obtain rfl := Option.some.inj h
    exact ⟨h3, by simp⟩
  split at h
  · obtain ⟨_, h⟩ := Prod.mk.inj h
    obtain rfl := Option.some.inj h
    exact ⟨h3, by simp⟩
  split at h
  · split at h
    · cases h
    rename_i M4 y hy
    have h4 := seqP_le3 _ _ [] _ _ (Nat.le_refl _) (by simp) hy
    obtain ⟨_, h⟩ := Prod.mk.inj h
    obtain rfl := Option.some.inj h
    exact ⟨h3, h4⟩
  · obtain ⟨_, h⟩ := Prod.mk.inj h
    obtain rfl := Option.some.inj h
    exact ⟨h3, by simp⟩
theorem parseP_le3 : ∀ (k : Nat) (acc : List Rl) (M : List Nat) (l : List Rl), (∀ x ∈ acc, x.seq.length ≤ 3 ∧ x.exp.length ≤ 3) → parseP k acc M = .ok l → l.length ≤ 40 ∧ ∀ x ∈ l, x.seq.length ≤ 3 ∧ x.exp.length ≤ 3
  | k, acc, [], l, ha, h => by
    rw [parseP_nil] at h
    split at h
    · cases h
    · injection h with h
      subst h
      exact ⟨by omega, ha⟩
  | 0, acc, c :: r, l, ha, h => by
    unfold parseP at h
    cases h
  | k + 1, acc, c :: r, l, ha, h => by
    rcases hr : ruleP acc.isEmpty (c :: r) with ⟨M', _ | x⟩
    · rw [parseP_none (by simp) hr] at h
      cases h
    · rw [parseP_some (by simp) hr] at h
      refine parseP_le3 k _ M' l (fun y hy => ?_) h
      rcases List.mem_append.1 hy with hy | hy
      · exact ha y hy
      · rw [List.mem_singleton] at hy
        subst hy
        exact ruleP_le3 hr
theorem RRd.nil (w : World) : RRd w (.slice none 0 0) [] := ⟨none, 0, rfl, Nat.le_refl _, fun h => by simp at h⟩
/-- what both Parse answer of one text -/
theorem both (s : ByteArray) (w : World) (hs : s.size ≤ 100000) (hT : TabsU w) : ∃ (l : List RlZ) (a e : Int), l.length ≤ 40 ∧ (∀ x ∈ l, x.seq.length ≤ 3 ∧ x.exp.length ≤ 3) ∧
    Hid (∀ W, Below w.heap.size w W → Calls Tryd.prog 7 #[.string s] W fun r w' => ∃ A c, r = .returned (.tuple #[.slice A l.length c, .int .i64 a, .int .i64 e]) ∧ RRd w' (.slice A l.length c) l ∧ Below W.heap.size W w') ∧
    Hid (∀ W, Calls Tryd.prog 8 #[.string s] W fun r w' => ∃ A c, r = .returned (.agg #[.slice A l.length c, .int .i64 a, .int .i64 e]) ∧ RRd w' (.slice A l.length c) l ∧ Below W.heap.size W w') := by
  have P1 := fun W (hb : Below w.heap.size w W) => parse_rd s W hs (hT.below hb)
  have P2 := fun W => parse_rf s W hs
  rcases hR : parseP (sgs (bl s)).length [] (blankP (sgs (bl s))) with l | _ | M
  · rw [hR] at P1 P2
    obtain ⟨h40, h3⟩ := parseP_le3 _ _ _ _ (fun x hx => by cases hx) hR
    refine ⟨l.map toZ, 0, 0, by rw [List.length_map]; exact h40, fun x hx => ?_, Lib.hid (fun W hb => (P1 W hb).mono ?_), Lib.hid (fun W => (P2 W).mono ?_)⟩
    · obtain ⟨y, hy, rfl⟩ := List.mem_map.1 hx
      obtain ⟨q1, q2⟩ := h3 y hy
      exact ⟨by simp [toZ, zl]; exact q1, by simp [toZ, zl]; exact q2⟩
    · rintro r w' ⟨hA, hb1⟩
      obtain ⟨A, c, acc, rfl, rfl, hRw⟩ := hA
      refine ⟨A, c, by simp only [List.length_map], ?_, hb1⟩
      have := RRd.of_row hRw
      simp only [List.map_map, List.length_map] at this ⊢
      exact this
    · rintro r w' ⟨hA, hb1⟩
      obtain ⟨A, c, acc, rfl, rfl, hRw⟩ := hA
      refine ⟨A, c, by simp only [List.length_map], ?_, hb1⟩
      have := RRd.of_row hRw
      simp only [List.map_map, List.length_map] at this ⊢
      exact this
  · rw [hR] at P1 P2
    exact ⟨[], 0, 65, by simp, (fun x hx => by cases hx), Lib.hid (fun W hb => (P1 W hb).mono fun r w' ⟨hA, hb1⟩ => ⟨none, 0, hA, RRd.nil _, hb1⟩), Lib.hid (fun W => (P2 W).mono fun r w' ⟨hA, hb1⟩ => ⟨none, 0, hA, RRd.nil _, hb1⟩)⟩
  · rw [hR] at P1 P2
    exact ⟨[], _, 10, by simp, (fun x hx => by cases hx), Lib.hid (fun W hb => (P1 W hb).mono fun r w' ⟨hA, hb1⟩ => ⟨none, 0, hA, RRd.nil _, hb1⟩), Lib.hid (fun W => (P2 W).mono fun r w' ⟨hA, hb1⟩ => ⟨none, 0, hA, RRd.nil _, hb1⟩)⟩

set_option maxHeartbeats 1000000 in
set_option maxRecDepth 100000 in
theorem walk_RulesReads (s : ByteArray) (ws : s.size ≤ maxLen) (w : World) (hT : TabsU w) :
    Calls Tryd.prog 3 #[.string s] w fun e w' => e = .returned (.bool true) ∧ Below w.heap.size w w' := by
  have K := Lib.hid (fun W (hb : Below w.heap.size w W) => awake_rules W (hT.below hb))
  by_cases h : 1000 < s.size
  · have h' : (1000 : Int) < (s.size : Int) := by omega
    clear h hT
    go_enter Tryd.func3, Tryd.ntmps3
    go_wp2_with (first | (go_at_call 6; (with_reducible refine (K.out _ (Below.refl _ _)).mono ?_); rintro e w1 ⟨rfl, hb1⟩))
    go_ret
    exact ⟨rfl, hb1⟩
  · have h' : ¬ (1000 : Int) < (s.size : Int) := by omega
    obtain ⟨l, a, e, h40, h3, P1, P2⟩ := both s w (by omega) hT
    have SM : Hid (∀ W v1 v2, RRd W v1 l → RRd W v2 l → Calls Tryd.prog 9 #[v1, v2] W fun e w' => e = .returned (.bool true) ∧ Below W.heap.size W w') := Lib.hid (fun W v1 v2 q1 q2 => Same_yes v1 v2 l W q1 q2 (by omega) (fun x hx => ⟨by have := (h3 x hx).1; omega, by have := (h3 x hx).2; omega⟩))
    clear h hT h3
    go_enter Tryd.func3, Tryd.ntmps3
    go_wp2_with (first
      | (go_at_call 7; (with_reducible refine (P1.out _ (Below.refl _ _)).mono ?_); rintro r w1 ⟨A1, c1, rfl, hr1, hb1⟩)
      | (go_at_call 8; (with_reducible refine (P2.out _).mono ?_); rintro r w2 ⟨A2, c2, rfl, hr2, hb2⟩; have hbb := btr hb1 hb2; have ha2 := (Below.refl w2.heap.size w2).alloc (Nat.le_refl _) (Obj.cells #[.slice A2 l.length c2, .int .i64 a, .int .i64 e] 29); have q1 := (hr1.below hb2).below ha2; have q2 := hr2.below ha2)
      | (go_at_call 9; (with_reducible refine (SM.out _ _ _ q1 q2).mono ?_); rintro r w3 ⟨rfl, hb3⟩; have z1 := (hb3.cell (p := ⟨w2.heap.size, 1, none⟩) (by simp)).trans (show _ = some (Value.int .i64 a) by simp); have z2 := (hb3.cell (p := ⟨w2.heap.size, 2, none⟩) (by simp)).trans (show _ = some (Value.int .i64 e) by simp); have hb4 := btr (btr hbb ha2) hb3)
      | (go_at_call 6; (with_reducible refine (K.out _ hb4).mono ?_); rintro r w5 ⟨rfl, hb5⟩))
    go_ret
    exact ⟨rfl, btr hb4 hb5⟩
end Go.Proofs.YtmpnblibbcocpaaDoor
