
/- Two rules of any three code points: their text is told, and read back as they are, in plain Lean. Conditions stand at each theorem. -/
import Derived.Test.YtmpnblibbcocpaaDoorRulesY
namespace Go.Proofs.YtmpnblibbcocpaaDoor
open Go.ChangeShapes Go.WideShapes Go.ChangeAt Go.RowKit Go.Lib
set_option linter.unusedVariables false

theorem blankP_not {c : Nat} {r : List Nat} (h : blk c = false) : blankP (c :: r) = c :: r := by
  unfold blankP
  rw [List.dropWhile_cons, if_neg (by rw [h]; simp)]
theorem blankP_sp {c : Nat} {r : List Nat} (h : blk c = true) : blankP (c :: r) = blankP r := by
  unfold blankP
  rw [List.dropWhile_cons, if_pos h]
theorem blank_esc (c : Nat) (r : List Nat) : blankP (escS c ++ r) = escS c ++ r := by
  unfold escS
  split
  · exact blankP_not rfl
  · rename_i hn
    refine blankP_not ?_
    unfold spZ at hn
    unfold blk
    simp at hn ⊢
    omega
theorem ruleP_reset {r q M2 : List Nat} (first : Bool) (h : seqP (blankP r) [] = (M2, some q)) : ruleP first (38 :: r) = (blankP M2, some ⟨1, q, []⟩) := by
  have e : relP (38 :: r) = (1, r) := by simp [relP]
  unfold ruleP
  rw [e]
  simp [h]
theorem ruleP_second {r q M2 M3 x M4 : List Nat} (h : seqP (blankP (32 :: r)) [] = (M2, some q)) (h2 : blankP M2 = 47 :: M3) (h3 : seqP (blankP M3) [] = (M4, some x)) : ruleP false (60 :: 60 :: 32 :: r) = (blankP M4, some ⟨3, q, x⟩) := by
  have e : relP (60 :: 60 :: 32 :: r) = (3, 32 :: r) := by simp [relP]
  unfold ruleP
  rw [e]
  simp [h, h2, h3]
theorem sgs_asc : ∀ (l : List UInt8) (t : List UInt8), (∀ b ∈ l, b.toNat < 128) → sgs (l ++ t) = l.map (·.toNat) ++ sgs t
  | [], t, _ => rfl
  | b :: l, t, h => by
    have hb := h b (by simp)
    have e : sg (b :: (l ++ t)) = (b.toNat, 1) := by
      have hbt : bt (b :: (l ++ t)) 0 = b.toNat := rfl
      unfold sg
      rw [hbt]
      exact eq1 hb
    rw [List.cons_append, sgs_step (by simp), e]
    simp only [List.drop_succ_cons, List.drop_zero, List.map_cons]
    rw [sgs_asc l t (fun x hx => h x (by simp [hx]))]
    rfl
def L2 (a b c : Int) : List RlZ := [⟨1, [a], []⟩, ⟨3, [b, c], [a, b, c]⟩]
theorem joinR_L2 (a b c : Int) : joinR (L2 a b c) = [38, 32] ++ (textB [a] ++ ([32, 60, 60, 32] ++ (textB [b, c] ++ ([32, 47, 32] ++ textB [a, b, c])))) := by
  simp [joinR, Lib.join, wordsR, wordsX, relName, L2, List.intercalate]
def Good (c : Nat) : Prop := c < 55296 ∨ (57344 ≤ c ∧ c ≤ 1114111)
theorem sgs_L2 {a b c : Nat} (ha : Good a) (hb : Good b) (hc : Good c) : sgs (joinR (L2 a b c)) =
    38 :: 32 :: (([a].map escS).flatten ++ 32 :: 60 :: 60 :: 32 :: (([b, c].map escS).flatten ++ 32 :: 47 :: 32 :: (([a, b, c].map escS).flatten ++ []))) := by
  have g1 : ∀ x ∈ [a], x < 55296 ∨ (57344 ≤ x ∧ x ≤ 1114111) := fun x hx => by simp at hx; subst hx; exact ha
  have g2 : ∀ x ∈ [b, c], x < 55296 ∨ (57344 ≤ x ∧ x ≤ 1114111) := fun x hx => by
    simp at hx
    rcases hx with rfl | rfl
    · exact hb
    · exact hc
  have g3 : ∀ x ∈ [a, b, c], x < 55296 ∨ (57344 ≤ x ∧ x ≤ 1114111) := fun x hx => by
    simp at hx
    rcases hx with rfl | rfl | rfl
    · exact ha
    · exact hb
    · exact hc
  have t1 : textB [(a : Int)] = textB (zl [a]) := rfl
  have t2 : textB [(b : Int), (c : Int)] = textB (zl [b, c]) := rfl
  have t3 : textB [(a : Int), (b : Int), (c : Int)] = textB (zl [a, b, c]) ++ [] := by rw [List.append_nil]; rfl
  rw [joinR_L2, sgs_asc _ _ (by decide), t1, sgs_text g1, sgs_asc _ _ (by decide), t2, sgs_text g2, sgs_asc _ _ (by decide), t3, sgs_text g3, sgs_nil]
  rfl
theorem parse_L2 {a b c : Nat} (ha : Good a) (hb : Good b) (hc : Good c) : parseP (sgs (joinR (L2 a b c))).length [] (blankP (sgs (joinR (L2 a b c)))) = .ok [⟨1, [a], []⟩, ⟨3, [b, c], [a, b, c]⟩] := by
  rw [sgs_L2 ha hb hc]
  have e1 : ∀ r, blankP (([a].map escS).flatten ++ r) = ([a].map escS).flatten ++ r := fun r => by
    show blankP (escS a ++ [] ++ r) = escS a ++ [] ++ r
    rw [List.append_nil]
    exact blank_esc a r
  have e2 : ∀ r, blankP (([b, c].map escS).flatten ++ r) = ([b, c].map escS).flatten ++ r := fun r => by
    show blankP (escS b ++ (escS c ++ []) ++ r) = escS b ++ (escS c ++ []) ++ r
    rw [List.append_assoc]
    exact blank_esc b _
  have e3 : ∀ r, blankP (([a, b, c].map escS).flatten ++ r) = ([a, b, c].map escS).flatten ++ r := fun r => by
    show blankP (escS a ++ (escS b ++ (escS c ++ [])) ++ r) = escS a ++ (escS b ++ (escS c ++ [])) ++ r
    rw [List.append_assoc]
    exact blank_esc a _
  obtain ⟨X3, h3⟩ : ∃ X, X = ([a, b, c].map escS).flatten ++ ([] : List Nat) := ⟨_, rfl⟩
  have s3 : seqP X3 [] = ([], some [a, b, c]) := by rw [h3, seqP_text (by simp), seqP_nil]; rfl
  have b3 : blankP X3 = X3 := by rw [h3]; exact e3 _
  rw [← h3]
  obtain ⟨X2, h2⟩ : ∃ X, X = ([b, c].map escS).flatten ++ 32 :: 47 :: 32 :: X3 := ⟨_, rfl⟩
  have s2 : seqP X2 [] = (32 :: 47 :: 32 :: X3, some [b, c]) := by rw [h2, seqP_text (by simp), seqP_spc (by decide)]; rfl
  have b2 : blankP X2 = X2 := by rw [h2]; exact e2 _
  rw [← h2]
  obtain ⟨X1, h1⟩ : ∃ X, X = ([a].map escS).flatten ++ 32 :: 60 :: 60 :: 32 :: X2 := ⟨_, rfl⟩
  have s1 : seqP X1 [] = (32 :: 60 :: 60 :: 32 :: X2, some [a]) := by rw [h1, seqP_text (by simp), seqP_spc (by decide)]; rfl
  have b1 : blankP X1 = X1 := by rw [h1]; exact e1 _
  rw [← h1, blankP_not (c := 38) rfl]
  have r1 : ruleP ([] : List Rl).isEmpty (38 :: 32 :: X1) = (60 :: 60 :: 32 :: X2, some ⟨1, [a], []⟩) := by
    rw [ruleP_reset _ (by rw [blankP_sp (by rfl), b1]; exact s1), blankP_sp (by rfl), blankP_not (by rfl)]
  have r2 : ruleP ([] ++ [(⟨1, [a], []⟩ : Rl)]).isEmpty (60 :: 60 :: 32 :: X2) = ([], some ⟨3, [b, c], [a, b, c]⟩) := by
    have := ruleP_second (r := X2) (by rw [blankP_sp (by rfl), b2]; exact s2) (by rw [blankP_sp (by rfl), blankP_not (by rfl)]) (by rw [blankP_sp (by rfl), b3]; exact s3)
    exact this
  rw [List.length_cons, List.length_cons, parseP_some (by simp) r1, parseP_some (by simp) r2, parseP_nil]
  rfl
theorem tAns_L2 {a b c : Nat} (ha : Good a) (hb : Good b) (hc : Good c) : tAns (L2 a b c) = .tuple #[.string ⟨(joinR (L2 a b c)).toArray⟩, .int .i64 0] := by
  unfold tAns
  rw [if_pos (by rfl), parse_L2 ha hb hc]
  show (if eqRs (L2 a b c) (L2 a b c) = true then _ else _) = _
  rw [if_pos (eqRs_iff.2 rfl)]
theorem joinR_L2_len (a b c : Int) : (joinR (L2 a b c)).length ≤ 100 := by
  have h1 := textB_len [a]
  have h2 := textB_len [b, c]
  have h3 := textB_len [a, b, c]
  rw [joinR_L2]
  simp at *
  omega
theorem good_of {z : Int} (h : isZ z = true) (h2 : ¬ 1114111 < z) : ∃ c : Nat, z = c ∧ Good c := by
  unfold isZ at h
  simp at h
  exact ⟨z.toNat, by omega, by unfold Good; omega⟩
end Go.Proofs.YtmpnblibbcocpaaDoor
