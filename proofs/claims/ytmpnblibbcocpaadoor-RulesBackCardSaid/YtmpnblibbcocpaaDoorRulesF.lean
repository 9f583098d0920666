
/- The program's reader of rules: a rule, whatever is left. What keeps rows in memory. Conditions stand at each theorem. -/
import Derived.Test.YtmpnblibbcocpaaDoorRulesE
namespace Go.Proofs.YtmpnblibbcocpaaDoor
open Go.ChangeShapes Go.WideShapes Go.ChangeAt Go.RowKit Go.Lib
set_option linter.unusedVariables false

theorem rule_rd {b : Nat} {lv av : Value} {L : List Nat} {i : Nat} {w : World} (first : Bool) (h : St b lv av L i w) :
    Calls Tryd.prog 19 #[pt b, .bool first] w fun e w' => ∃ rel sA sn sc tA tn tc ok k, e = .returned (.tuple #[.agg #[.int .i64 rel, .slice sA sn sc, .slice tA tn tc], .bool ok]) ∧ St b lv av L k w' ∧ But b w w' ∧ RA w.heap.size w' L k (ruleP first (L.drop i)) rel (.slice sA sn sc) (.slice tA tn tc) ok := by
  obtain ⟨R, hR⟩ : ∃ R, relP (L.drop i) = R := ⟨_, rfl⟩
  obtain ⟨r1, M1⟩ := R
  by_cases hz0 : r1 = 0
  · exact rule_0a first h hR hz0
  rcases hq : seqP (blankP M1) [] with ⟨M2, _ | q⟩
  · by_cases hz1 : r1 = 1
    · exact rule_1a first h hR hz1 M2 hq
    · cases first
      · exact rule_1b h hR hz0 hz1 M2 hq
      · exact rule_0b h hR hz0 hz1
  · by_cases hz1 : r1 = 1
    · exact rule_2 first h hR hz1 M2 q hq
    · cases first
      · by_cases h47 : hd (blankP M2) = 47
        · rcases hM : blankP M2 with _ | ⟨c, M3⟩
          · rw [hM] at h47; cases h47
          · rw [hM, hd_cons] at h47
            obtain rfl : c = 47 := by omega
            rcases hq5 : seqP (blankP M3) [] with ⟨M4, _ | q'⟩
            · exact rule_4 h hR hz0 hz1 M2 q hq M3 M4 hM hq5
            · exact rule_5 h hR hz0 hz1 M2 q hq M3 M4 hM q' hq5
        · exact rule_3 h hR hz0 hz1 M2 q hq h47
      · exact rule_0b h hR hz0 hz1

theorem grown_but {w w' : World} {row : Option Nat} (h : w.grownBy w' row) : (∃ g, row = some g ∧ But g w w') ∨ (row = none ∧ Below w.heap.size w w') := by
  rcases row with _ | g
  · exact .inr ⟨rfl, (Below.refl _ _).grown h (Nat.le_refl _) (fun k hk => by cases hk)⟩
  · exact .inl ⟨g, rfl, ⟨h.os, h.tape, h.output, h.size, fun k hk hn => h.block k hk (fun e => hn (by injection e))⟩⟩
/-- the row of a value of the call's own is a block of its type -/
theorem own_block {w : World} {B e size n : Nat} {v : Value} {xs : List Value} (h : w.ownsRow B e size v n xs) {g : Nat} (hg : v.ownBlock = some g) : ∃ cur, w.heap[g]? = some (.cells cur e (0, 0)) := by
  rcases h.2 with ⟨rfl, _⟩ | ⟨g', cap, cur, rfl, h1, hg', hr⟩
  · cases hg
  · obtain rfl : g' = g := by injection hg
    exact ⟨cur, hg'⟩
/-- numbers' rows are kept where another type's row grows -/
theorem Own.keep {w w' : World} {B b e size n : Nat} {v v2 : Value} {l : List Nat} {xs : List Value} (h : Own w B v l) (ho : w.ownsRow b e size v2 n xs) (he : e ≠ 3) (hg : w.grownBy w' v2.ownBlock) : Own w' B v l := by
  rcases grown_but hg with ⟨g, h1, h2⟩ | ⟨_, h2⟩
  · obtain ⟨cur, hc⟩ := own_block ho h1
    rcases h with h | ⟨g', cap, cur', rfl, h1', hg', hn, hcc, hs, ht⟩
    · exact .inl h
    · refine .inr ⟨g', cap, cur', rfl, h1', (h2.block g' (Array.getElem?_eq_some_iff.1 hg').1 ?_).trans hg', hn, hcc, hs, ht⟩
      rintro rfl
      rw [hg'] at hc
      injection hc with hc
      injection hc with _ hc
      exact he hc.symm
  · exact h.below h2
theorem own_keep {w w' : World} {B b e size n m sz : Nat} {v v2 : Value} {ys xs : List Value} (h : w.ownsRow B 3 sz v m ys) (ho : w.ownsRow b e size v2 n xs) (he : e ≠ 3) (hg : w.grownBy w' v2.ownBlock) : w'.ownsRow B 3 sz v m ys := by
  rcases grown_but hg with ⟨g, h1, h2⟩ | ⟨_, h2⟩
  · obtain ⟨cur, hc⟩ := own_block ho h1
    refine ⟨h.1, ?_⟩
    rcases h.2 with h0 | ⟨g', cap, cur', hv, h1', hg', hr⟩
    · exact .inl h0
    · refine .inr ⟨g', cap, cur', hv, h1', (h2.block g' (Array.getElem?_eq_some_iff.1 hg').1 ?_).trans hg', hr⟩
      rintro rfl
      rw [hg'] at hc
      injection hc with hc
      injection hc with _ hc
      exact he hc.symm
  · exact own_below h h2
theorem infoR : (Tryd.prog.info? 43).map (fun i => (i.zero, i.size, i.bytes)) = some (some (.agg #[.int .i64 0, .slice none 0 0, .slice none 0 0]), 3, 56) := by kernel_rfl
theorem rule_ne_int : (43 : Nat) ≠ 3 := by decide
end Go.Proofs.YtmpnblibbcocpaaDoor
