
/- Rules told as a text and read again, in plain Lean: what both answers are, and that they agree. Conditions stand at each theorem. -/
import Derived.Test.YtmpnblibbcocpaaDoorRulesZ
import Derived.Test.YtmpnblibbcocpaaDoorTextQ
namespace Go.Proofs.YtmpnblibbcocpaaDoor
open Go.ChangeShapes Go.WideShapes Go.ChangeAt Go.RowKit Go.Lib
set_option linter.unusedVariables false

def okR (x : RlZ) : Bool := relOk x && x.seq.all isZ && x.exp.all isZ
def jR (x : RlZ) : List UInt8 := relName x.rel ++ [32] ++ textB x.seq ++ (if 0 < x.exp.length then [32, 47, 32] ++ textB x.exp else [])
theorem joinTail_app (sep : List UInt8) (r s : List (List UInt8)) : joinTail sep (r ++ s) = joinTail sep r ++ joinTail sep s := by
  unfold joinTail
  rw [List.map_append, List.flatten_append]
theorem join_app {a b : List (List UInt8)} (ha : a ≠ []) (hb : b ≠ []) (sep : List UInt8) : Lib.join (a ++ b) sep = Lib.join a sep ++ (sep ++ Lib.join b sep) := by
  rcases a with _ | ⟨x, r⟩
  · exact absurd rfl ha
  rcases b with _ | ⟨y, s⟩
  · exact absurd rfl hb
  rw [List.cons_append, join_cons, join_cons, join_cons, joinTail_app]
  simp [joinTail, List.append_assoc]
theorem join_wordsX (x : RlZ) : Lib.join (wordsX x) [32] = jR x := by
  unfold wordsX jR
  split
  · simp [Lib.join, List.intercalate]
  · simp [Lib.join, List.intercalate]
theorem wordsX_ne (x : RlZ) : wordsX x ≠ [] := by simp [wordsX]
theorem wordsR_ne {x : RlZ} {l : List RlZ} : wordsR (x :: l) ≠ [] := by simp [wordsR, wordsX]
theorem joinR_snoc (l : List RlZ) (x : RlZ) : joinR (l ++ [x]) = joinR l ++ ((if l = [] then [] else [32]) ++ jR x) := by
  unfold joinR
  have e : wordsR [x] = wordsX x := by simp [wordsR]
  rw [wordsR_app, e]
  rcases l with _ | ⟨y, l⟩
  · simp [wordsR, join_wordsX, Lib.join_nil]
  · rw [join_app wordsR_ne (wordsX_ne x), join_wordsX, if_neg (by simp)]
theorem jR_len (x : RlZ) : (jR x).length ≤ 10 + 5 * (x.seq.length + x.exp.length) := by
  have h1 := textB_len x.seq
  have h2 := textB_len x.exp
  have h3 : (relName x.rel).length ≤ 3 := by unfold relName; repeat' split
                                             all_goals simp
  unfold jR
  split <;> simp <;> omega
theorem joinR_len {l : List RlZ} {m : Nat} (h : ∀ x ∈ l, x.seq.length + x.exp.length ≤ m) : (joinR l).length ≤ l.length * (11 + 5 * m) := by
  suffices hs : ∀ k, k ≤ l.length → (joinR (l.take k)).length ≤ k * (11 + 5 * m) by
    have := hs l.length (Nat.le_refl _)
    rwa [List.take_length] at this
  intro k
  induction k with
  | zero => intro _; simp [joinR, wordsR, Lib.join_nil]
  | succ k ih =>
    intro hk
    have := ih (by omega)
    have hx := h (l[k]'(by omega)) (List.getElem_mem _)
    have hj := jR_len (l[k]'(by omega))
    rw [List.take_add_one, List.getElem?_eq_getElem (by omega), Option.toList_some, joinR_snoc, List.length_append, List.length_append]
    have : ((if l.take k = [] then [] else [32] : List UInt8)).length ≤ 1 := by split <;> simp
    rw [Nat.add_mul]
    omega
def eqEnd (R : RulesEnd) (L : List RlZ) : Bool := match R with
  | .ok m => eqRs (m.map toZ) L
  | _ => false
/-- what the document's Text returns -/
def dAns (L : List RlZ) : Value := if L.all okR = true then .tuple #[.string ⟨(joinR L).toArray⟩, .bool (eqEnd (parseP (sgs (joinR L)).length [] (blankP (sgs (joinR L)))) L)] else .tuple #[.string ⟨#[]⟩, .bool false]
theorem dAns_bad {L : List RlZ} {k : Nat} (h : k < L.length) (hb : okR (L[k]'h) = false) : dAns L = .tuple #[.string ⟨#[]⟩, .bool false] := by
  unfold dAns
  rw [if_neg]
  intro ha
  rw [List.all_eq_true] at ha
  rw [ha _ (List.getElem_mem h)] at hb
  cases hb

theorem blankP_sub {M : List Nat} {c : Nat} (h : c ∈ blankP M) : c ∈ M := (List.dropWhile_sublist blk).mem h
theorem finP_some {acc q : List Nat} (h : finP acc = some q) : q = acc := by
  unfold finP at h
  split at h
  · cases h
  · injection h with h
    exact h.symm
theorem seqP_good : ∀ (n : Nat) (M acc M' q : List Nat), M.length ≤ n → (∀ c ∈ M, isZ (c : Int) = true) → (∀ c ∈ acc, isZ (c : Int) = true) → seqP M acc = (M', some q) → (∀ c ∈ M', isZ (c : Int) = true) ∧ ∀ c ∈ q, isZ (c : Int) = true
  | _, [], acc, M', q, _, hM, ha, h => by
    rw [seqP_nil] at h
    have hh := Prod.mk.inj h
    clear h
    obtain ⟨hh0, h⟩ := hh
    subst hh0
    rw [finP_some h]
    exact ⟨(fun c hc => by cases hc), ha⟩
  | 0, _ :: _, _, _, _, h, _, _, _ => by simp at h
  | n + 1, c :: r, acc, M', q, hn, hM, ha, h => by
    have hn' : r.length ≤ n := by simpa using hn
    have hr : ∀ x ∈ r, isZ (x : Int) = true := fun x hx => hM x (by simp [hx])
    by_cases h1 : spc c = true
    · rw [seqP_spc h1] at h
      have hh := Prod.mk.inj h
      clear h
      obtain ⟨hh0, h⟩ := hh
      subst hh0
      rw [finP_some h]
      exact ⟨hM, ha⟩
    · have h1 : spc c = false := by simpa using h1
      by_cases h2 : acc.length = 3
      · rw [seqP_long h1 h2] at h
        cases (Prod.mk.inj h).2
      · by_cases h3 : c = 92
        · subst h3
          rcases r with _ | ⟨d, r⟩
          · rw [seqP_end h2] at h
            cases (Prod.mk.inj h).2
          · rw [seqP_back h2] at h
            exact seqP_good n r _ M' q (by simp at hn'; omega) (fun x hx => hr x (by simp [hx])) (fun x hx => by
              rcases List.mem_append.1 hx with hx | hx
              · exact ha x hx
              · rw [List.mem_singleton] at hx
                subst hx
                exact hr x (by simp)) h
        · rw [seqP_sign h1 h2 h3] at h
          exact seqP_good n r _ M' q hn' hr (fun x hx => by
            rcases List.mem_append.1 hx with hx | hx
            · exact ha x hx
            · rw [List.mem_singleton] at hx
              subst hx
              exact hM x (by simp)) h
theorem relP_sub {M : List Nat} {c : Nat} (h : c ∈ (relP M).2) : c ∈ M := by
  unfold relP at h
  repeat' split at h
  all_goals simp_all
theorem ruleP_good {first : Bool} {M M' : List Nat} {x : Rl} (hM : ∀ c ∈ M, isZ (c : Int) = true) (h : ruleP first M = (M', some x)) : (∀ c ∈ M', isZ (c : Int) = true) ∧ (∀ c ∈ x.seq, isZ (c : Int) = true) ∧ ∀ c ∈ x.exp, isZ (c : Int) = true := by
  unfold ruleP at h
  split at h
  · cases h
  split at h
  · cases h
  rename_i M2 q hq
  obtain ⟨g1, g2⟩ := seqP_good _ _ [] _ _ (Nat.le_refl _) (fun c hc => hM c (relP_sub (blankP_sub hc))) (fun c hc => by cases hc) hq
  split at h
  · have hh := Prod.mk.inj h
    clear h
    obtain ⟨hh0, h⟩ := hh
    subst hh0
    obtain rfl := Option.some.inj h
    exact ⟨fun c hc => g1 c (blankP_sub hc), g2, fun c hc => by cases hc⟩
  split at h
  · have hh := Prod.mk.inj h
    clear h
    obtain ⟨hh0, h⟩ := hh
    subst hh0
    obtain rfl := Option.some.inj h
    exact ⟨(fun c hc => by cases hc), g2, fun c hc => by cases hc⟩
  rename_i c0 M3 hM3
  have g3 : ∀ c ∈ c0 :: M3, isZ (c : Int) = true := fun c hc => g1 c (blankP_sub (hM3 ▸ hc))
  split at h
  · split at h
    · cases h
    rename_i M4 y hy
    obtain ⟨g4, g5⟩ := seqP_good _ _ [] _ _ (Nat.le_refl _) (fun c hc => g3 c (by simp [blankP_sub hc])) (fun c hc => by cases hc) hy
    have hh := Prod.mk.inj h
    clear h
    obtain ⟨hh0, h⟩ := hh
    subst hh0
    obtain rfl := Option.some.inj h
    exact ⟨fun c hc => g4 c (blankP_sub hc), g2, g5⟩
  · have hh := Prod.mk.inj h
    clear h
    obtain ⟨hh0, h⟩ := hh
    subst hh0
    obtain rfl := Option.some.inj h
    exact ⟨g3, g2, fun c hc => by cases hc⟩
theorem parseP_good : ∀ (k : Nat) (acc : List Rl) (M : List Nat) (l : List Rl), (∀ c ∈ M, isZ (c : Int) = true) → (∀ x ∈ acc, (∀ c ∈ x.seq, isZ (c : Int) = true) ∧ ∀ c ∈ x.exp, isZ (c : Int) = true) → parseP k acc M = .ok l → ∀ x ∈ l, (∀ c ∈ x.seq, isZ (c : Int) = true) ∧ ∀ c ∈ x.exp, isZ (c : Int) = true
  | k, acc, [], l, hM, ha, h => by
    rw [parseP_nil] at h
    split at h
    · cases h
    · injection h with h
      subst h
      exact ha
  | 0, acc, c :: r, l, hM, ha, h => by
    unfold parseP at h
    cases h
  | k + 1, acc, c :: r, l, hM, ha, h => by
    rcases hr : ruleP acc.isEmpty (c :: r) with ⟨M', _ | x⟩
    · rw [parseP_none (by simp) hr] at h
      cases h
    · rw [parseP_some (by simp) hr] at h
      obtain ⟨g1, g2⟩ := ruleP_good hM hr
      refine parseP_good k _ M' l g1 (fun y hy => ?_) h
      rcases List.mem_append.1 hy with hy | hy
      · exact ha y hy
      · rw [List.mem_singleton] at hy
        subst hy
        exact g2
theorem sg_isZ (l : List UInt8) (h : l ≠ []) : isZ ((sg l).1 : Int) = true := by
  have hlt := bt_lt l 0
  unfold sg
  unfold isZ
  rcases sgN_shape l.length (bt l 0) (bt l 1) (bt l 2) (bt l 3) with ⟨c, e⟩ | ⟨c1, c2, c3, cv, e⟩ | ⟨c1, c2, c3, c4, cv, cs, e⟩ | ⟨c1, c2, c3, c4, c5, cv, cw, e⟩ | ⟨c, _, e⟩ <;> rw [e] <;> simp <;> omega
theorem sgs_isZ : ∀ (n : Nat) (l : List UInt8), l.length ≤ n → ∀ c ∈ sgs l, isZ (c : Int) = true
  | _, [], _, c, hc => by rw [sgs_nil] at hc; cases hc
  | 0, _ :: _, h, _, _ => by simp at h
  | n + 1, b :: t, h, c, hc => by
    rw [sgs_step (by simp)] at hc
    rcases List.mem_cons.1 hc with hc | hc
    · rw [hc]
      exact sg_isZ _ (by simp)
    · refine sgs_isZ n _ ?_ c hc
      have h1 := sg_pos (b :: t)
      rw [List.length_drop]
      omega
theorem zl_isZ {l : List Nat} (h : ∀ c ∈ l, isZ (c : Int) = true) : (zl l).all isZ = true := by
  rw [List.all_eq_true]
  intro x hx
  unfold zl at hx
  obtain ⟨c, hc, rfl⟩ := List.mem_map.1 hx
  exact h c hc
theorem back_law (L : List RlZ) : (∃ S, tAns L = badT ∧ dAns L = .tuple #[.string S, .bool false]) ∨
    (∃ m, parseP (sgs (joinR L)).length [] (blankP (sgs (joinR L))) = .ok m ∧ m.map toZ = L ∧ tAns L = .tuple #[.string ⟨(joinR L).toArray⟩, .int .i64 0] ∧ dAns L = .tuple #[.string ⟨(joinR L).toArray⟩, .bool true]) := by
  by_cases hr : L.all relOk = true
  · cases hp : parseP (sgs (joinR L)).length [] (blankP (sgs (joinR L))) with
    | ok m =>
      by_cases he : m.map toZ = L
      · right
        have hg := parseP_good _ [] _ m (fun c hc => sgs_isZ _ _ (Nat.le_refl _) c (blankP_sub hc)) (fun x hx => by cases hx) hp
        have hall : L.all okR = true := by
          rw [List.all_eq_true] at hr ⊢
          intro x hx
          have h1 := hr x hx
          rw [← he] at hx
          obtain ⟨y, hy, rfl⟩ := List.mem_map.1 hx
          obtain ⟨g1, g2⟩ := hg y hy
          unfold okR
          rw [h1, Bool.true_and, Bool.and_eq_true]
          exact ⟨zl_isZ g1, zl_isZ g2⟩
        refine ⟨m, rfl, he, ?_, ?_⟩
        · unfold tAns
          rw [if_pos hr, hp]
          dsimp only
          rw [if_pos (eqRs_iff.2 he.symm)]
        · unfold dAns eqEnd
          rw [if_pos hall, hp]
          dsimp only
          rw [eqRs_iff.2 he]
      · left
        have e1 : tAns L = badT := by
          unfold tAns
          rw [if_pos hr, hp]
          dsimp only
          rw [if_neg (fun h => he (eqRs_iff.1 h).symm)]
        by_cases hall : L.all okR = true
        · refine ⟨⟨(joinR L).toArray⟩, e1, ?_⟩
          unfold dAns eqEnd
          rw [if_pos hall, hp]
          dsimp only
          cases hx : eqRs (m.map toZ) L
          · rfl
          · exact absurd (eqRs_iff.1 hx) he
        · exact ⟨⟨#[]⟩, e1, by unfold dAns; rw [if_neg hall]⟩
    | many =>
      left
      have e1 : tAns L = badT := by unfold tAns; rw [if_pos hr, hp]
      by_cases hall : L.all okR = true
      · exact ⟨⟨(joinR L).toArray⟩, e1, by unfold dAns eqEnd; rw [if_pos hall, hp]⟩
      · exact ⟨⟨#[]⟩, e1, by unfold dAns; rw [if_neg hall]⟩
    | wrong M =>
      left
      have e1 : tAns L = badT := by unfold tAns; rw [if_pos hr, hp]
      by_cases hall : L.all okR = true
      · exact ⟨⟨(joinR L).toArray⟩, e1, by unfold dAns eqEnd; rw [if_pos hall, hp]⟩
      · exact ⟨⟨#[]⟩, e1, by unfold dAns; rw [if_neg hall]⟩
  · left
    refine ⟨⟨#[]⟩, by unfold tAns; rw [if_neg hr], ?_⟩
    unfold dAns
    rw [if_neg]
    intro hall
    apply hr
    rw [List.all_eq_true] at hall ⊢
    intro x hx
    have := hall x hx
    unfold okR at this
    rw [Bool.and_eq_true, Bool.and_eq_true] at this
    exact this.1.1
end Go.Proofs.YtmpnblibbcocpaaDoor
