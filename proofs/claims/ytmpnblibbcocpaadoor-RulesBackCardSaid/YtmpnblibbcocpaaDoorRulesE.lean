
/- The program's reader of rules: a rule. Conditions stand at each theorem. -/
import Derived.Test.YtmpnblibbcocpaaDoorRulesD
namespace Go.Proofs.YtmpnblibbcocpaaDoor
open Go.ChangeShapes Go.WideShapes Go.ChangeAt Go.RowKit Go.Lib
set_option linter.unusedVariables false

/-- what a rule's reading answers -/
def RA (B : Nat) (w' : World) (L : List Nat) (k : Nat) (R : List Nat × Option Rl) (rel : Int) (sv xv : Value) (ok : Bool) : Prop :=
  match R.2 with
  | none => ok = false ∧ L.drop k = R.1
  | some x => ok = true ∧ blankP (L.drop k) = R.1 ∧ rel = (x.rel : Nat) ∧ Own w' B sv x.seq ∧ Own w' B xv x.exp
/-- three cells of the call's own -/
structure C3 (c : Nat) (x y z : Value) (w : World) : Prop where
  k0 : w.cell? ⟨c, 0, none⟩ = some x
  k1 : w.cell? ⟨c, 1, none⟩ = some y
  k2 : w.cell? ⟨c, 2, none⟩ = some z
  fr : ∀ o, w.frozen? ⟨c, o, none⟩ = false
  lt : c < w.heap.size
theorem C3.new (w : World) (x y z : Value) (T : TypeId) : C3 w.heap.size x y z (w.alloc (Obj.cells #[x, y, z] T)) := ⟨by simp, by simp, by simp, fun o => by simp [go_sem], by simp⟩
theorem C3.but {b c : Nat} {x y z : Value} {w w' : World} (h : C3 c x y z w) (hb : But b w w') (hn : c ≠ b) : C3 c x y z w' :=
  ⟨(hb.cell (p := ⟨c, 0, none⟩) h.lt hn).trans h.k0, (hb.cell (p := ⟨c, 1, none⟩) h.lt hn).trans h.k1, (hb.cell (p := ⟨c, 2, none⟩) h.lt hn).trans h.k2, fun o => (hb.frozen (p := ⟨c, o, none⟩) h.lt hn).trans (h.fr o), Nat.lt_of_lt_of_le h.lt hb.size⟩
theorem C3.set1 {c : Nat} {x y z : Value} {w : World} (h : C3 c x y z w) (y' : Value) : C3 c x y' z (w.setCell ⟨c, 1, none⟩ y') where
  k0 := by rw [World.cell?_setCell_other _ _ _ _ (by simp)]; exact h.k0
  k1 := World.cell?_setCell_same _ _ _ h.k1
  k2 := by rw [World.cell?_setCell_other _ _ _ _ (by simp)]; exact h.k2
  fr o := by simp [h.fr o]
  lt := by simp; exact h.lt
theorem C3.set0 {c : Nat} {x y z : Value} {w : World} (h : C3 c x y z w) (x' : Value) : C3 c x' y z (w.setCell ⟨c, 0, none⟩ x') where
  k0 := World.cell?_setCell_same _ _ _ h.k0
  k1 := by rw [World.cell?_setCell_other _ _ _ _ (by simp)]; exact h.k1
  k2 := by rw [World.cell?_setCell_other _ _ _ _ (by simp)]; exact h.k2
  fr o := by simp [h.fr o]
  lt := by simp; exact h.lt
theorem C3.set2 {c : Nat} {x y z : Value} {w : World} (h : C3 c x y z w) (z' : Value) : C3 c x y z' (w.setCell ⟨c, 2, none⟩ z') where
  k0 := by rw [World.cell?_setCell_other _ _ _ _ (by simp)]; exact h.k0
  k1 := by rw [World.cell?_setCell_other _ _ _ _ (by simp)]; exact h.k1
  k2 := World.cell?_setCell_same _ _ _ h.k2
  fr o := by simp [h.fr o]
  lt := by simp; exact h.lt
theorem Own.base {w : World} {B B' : Nat} {v : Value} {l : List Nat} (h : Own w B v l) (hB : B' ≤ B) : Own w B' v l := by
  rcases h with h | ⟨g, cap, cur, e, h1, h2⟩
  · exact .inl h
  · exact .inr ⟨g, cap, cur, e, Nat.le_trans hB h1, h2⟩
theorem Own.far {w : World} {base : Nat} {v : Value} {l : List Nat} (h : Own w base v l) {c : Nat} (hc : c < base) (o : Nat) (u : Value) : Own (w.setCell ⟨c, o, none⟩ u) base v l := h.but (But.set c o w u) hc
theorem St.far {b B : Nat} {lv av : Value} {L : List Nat} {i : Nat} {w : World} (h : St b lv av L i w) {c : Nat} (hB : b < B) (hc : B ≤ c) (o : Nat) (u : Value) : St b lv av L i (w.setCell ⟨c, o, none⟩ u) :=
  h.upto ((Below.refl B w).setCell (p := ⟨c, o, none⟩) hc u) hB
theorem But.farB {b : Nat} {w a : World} (h : But b w a) {c : Nat} (hc : w.heap.size ≤ c) (o : Nat) (u : Value) : But b w (a.setCell ⟨c, o, none⟩ u) :=
  h.onB ((Below.refl _ a).setCell (p := ⟨c, o, none⟩) hc u)
/-- the rule's result, stored into its cell -/
structure Ended (b : Nat) (lv av : Value) (L : List Nat) (k : Nat) (w W : World) : Prop where
  st : St b lv av L k W
  bt : But b w W
theorem Ended.far {b : Nat} {lv av : Value} {L : List Nat} {k : Nat} {w W : World} (h : Ended b lv av L k w W) (hbase : b < w.heap.size) {c : Nat} (hc : w.heap.size ≤ c) (o : Nat) (u : Value) : Ended b lv av L k w (W.setCell ⟨c, o, none⟩ u) := ⟨h.st.far hbase hc o u, h.bt.farB hc o u⟩
theorem Ended.alloc {b : Nat} {lv av : Value} {L : List Nat} {k : Nat} {w W : World} (h : Ended b lv av L k w W) (o : Obj) : Ended b lv av L k w (W.alloc o) :=
  have hb := (Below.refl W.heap.size W).alloc (Nat.le_refl _) o
  ⟨h.st.below hb, h.bt.on hb⟩
theorem Ended.at {b : Nat} {lv av : Value} {L : List Nat} {k : Nat} {w W : World} (h : Ended b lv av L k w W) {j : Nat} (hj : j ≤ L.length) : Ended b lv av L j w (W.setCell ⟨b, 2, none⟩ (.int .i64 (j : Nat))) := ⟨h.st.set hj, h.bt.put 2 _⟩
theorem drop_lt {L M : List Nat} {k c : Nat} (h : L.drop k = c :: M) : k < L.length := by
  apply Classical.byContradiction
  intro hn
  rw [List.drop_eq_nil_of_le (by omega)] at h
  cases h
theorem drop_next {L M : List Nat} {k c : Nat} (h : L.drop k = c :: M) : L.drop (k + 1) = M := by
  rw [drop_at (drop_lt h)] at h
  exact (List.cons.inj h).2
theorem relP_le (M : List Nat) : (relP M).1 ≤ 5 := by
  unfold relP
  repeat' split
  all_goals simp

set_option maxHeartbeats 2000000 in
set_option maxRecDepth 100000 in
theorem rule_0a {b : Nat} {lv av : Value} {L : List Nat} {i : Nat} {w : World} (first : Bool) (h : St b lv av L i w) {r1 : Nat} {M1 : List Nat} (hR : relP (L.drop i) = (r1, M1)) (hz : r1 = 0) :
    Calls Tryd.prog 19 #[pt b, .bool first] w fun e w' => ∃ rel sA sn sc tA tn tc ok k, e = .returned (.tuple #[.agg #[.int .i64 rel, .slice sA sn sc, .slice tA tn tc], .bool ok]) ∧ St b lv av L k w' ∧ But b w w' ∧ RA w.heap.size w' L k (ruleP first (L.drop i)) rel (.slice sA sn sc) (.slice tA tn tc) ok := by
  have hbase := h.rs.lt
  have hr : ruleP first (L.drop i) = (L.drop i, none) := by unfold ruleP; rw [hR, if_pos (.inl hz)]
  rw [hr]
  clear hr
  have ha : Below w.heap.size w (w.alloc (Obj.cells #[.int .i64 0, .slice none 0 0, .slice none 0 0] 43)) := (Below.refl _ _).alloc (Nat.le_refl _) _
  have G0 := C3.new w (.int .i64 0) (.slice none 0 0) (.slice none 0 0) 43
  have h0 := h.below ha
  have c2 := h0.rs.c2
  have R1 := relation_rd h0
  rw [hR] at R1
  subst hz
  have R1 : Calls Tryd.prog 33 #[pt b] _ fun e w' => e = .returned (.int .i64 0) ∧ ∃ k, L.drop k = M1 ∧ St b lv av L k w' ∧ But b _ w' := R1
  replace R1 := Lib.hid R1
  have nb : w.heap.size ≠ b := Nat.ne_of_gt hbase
  have nb' := Nat.ne_of_lt hbase
  clear hR
  go_enter Tryd.func19, Tryd.ntmps19
  go_wp2_with (first
    | (go_at_call 33; (with_reducible refine R1.out.mono ?_); rintro e w1 ⟨rfl, k1, hk1, hs1, hb1⟩; have G1 := G0.but hb1 nb; have n1 := Nat.ne_of_lt hs1.rs.lt; have n1' := Nat.ne_of_gt hs1.rs.lt; have l1 := hs1.rs.lt; have l2 := G1.lt; have n2 := Nat.ne_of_lt G1.lt; have n2' := Nat.ne_of_gt G1.lt; have d2 := hs1.rs.c2; have e2 := hs1.rs.f2; have g0 := G1.k0; have g1 := G1.k1; have g2 := G1.k2; have gf := G1.fr; have ha1 := (Below.refl w1.heap.size w1).alloc (Nat.le_refl _) (Obj.cells #[.int .i64 0, .slice none 0 0, .slice none 0 0] 43); have hs1' := hs1.below ha1; have X1 := C3.new w1 (.int .i64 0) (.slice none 0 0) (.slice none 0 0) 43; have hb1' := (hb1.on ha1); have G1' := G1.but (But.of (b := b) ha1) nb))
  have hE := (Ended.mk hs1 ((But.of ha).trans hb1)).at h.le
  exact bodyPost_ret (v := .tuple #[.agg #[.int .i64 0, .slice none 0 0, .slice none 0 0], .bool false]) (by simp [results, Tryd.results19, go_sem, *]) rfl ⟨_, _, _, _, _, _, _, false, i, rfl, ((((hE.far hbase (Nat.le_refl _) 0 _).far hbase (Nat.le_refl _) 1 _).far hbase (Nat.le_refl _) 2 _).alloc _).st, ((((hE.far hbase (Nat.le_refl _) 0 _).far hbase (Nat.le_refl _) 1 _).far hbase (Nat.le_refl _) 2 _).alloc _).bt, rfl, rfl⟩
set_option maxHeartbeats 2000000 in
set_option maxRecDepth 100000 in
theorem rule_0b {b : Nat} {lv av : Value} {L : List Nat} {i : Nat} {w : World} (h : St b lv av L i w) {r1 : Nat} {M1 : List Nat} (hR : relP (L.drop i) = (r1, M1)) (hz0 : r1 ≠ 0) (hz1 : r1 ≠ 1) :
    Calls Tryd.prog 19 #[pt b, .bool true] w fun e w' => ∃ rel sA sn sc tA tn tc ok k, e = .returned (.tuple #[.agg #[.int .i64 rel, .slice sA sn sc, .slice tA tn tc], .bool ok]) ∧ St b lv av L k w' ∧ But b w w' ∧ RA w.heap.size w' L k (ruleP true (L.drop i)) rel (.slice sA sn sc) (.slice tA tn tc) ok := by
  have hbase := h.rs.lt
  have hr : ruleP true (L.drop i) = (L.drop i, none) := by unfold ruleP; rw [hR, if_pos (.inr ⟨rfl, hz1⟩)]
  rw [hr]
  clear hr
  have ha : Below w.heap.size w (w.alloc (Obj.cells #[.int .i64 0, .slice none 0 0, .slice none 0 0] 43)) := (Below.refl _ _).alloc (Nat.le_refl _) _
  have G0 := C3.new w (.int .i64 0) (.slice none 0 0) (.slice none 0 0) 43
  have h0 := h.below ha
  have c2 := h0.rs.c2
  have R1 := relation_rd h0
  rw [hR] at R1
  have e0 : ((r1 : Int) == 0) = false := by rw [beq_eq_false_iff_ne]; omega
  have e1 : ((r1 : Int) == 1) = false := by rw [beq_eq_false_iff_ne]; omega
  have e1n : ((r1 : Int) != 1) = true := by rw [bne_iff_ne]; omega
  replace R1 := Lib.hid R1
  have nb : w.heap.size ≠ b := Nat.ne_of_gt hbase
  have nb' := Nat.ne_of_lt hbase
  clear hR
  go_enter Tryd.func19, Tryd.ntmps19
  go_wp2_with (first
    | (go_at_call 33; (with_reducible refine R1.out.mono ?_); rintro e w1 ⟨rfl, k1, hk1, hs1, hb1⟩; have G1 := G0.but hb1 nb; have n1 := Nat.ne_of_lt hs1.rs.lt; have n1' := Nat.ne_of_gt hs1.rs.lt; have l1 := hs1.rs.lt; have l2 := G1.lt; have n2 := Nat.ne_of_lt G1.lt; have n2' := Nat.ne_of_gt G1.lt; have d2 := hs1.rs.c2; have e2 := hs1.rs.f2; have g0 := G1.k0; have g1 := G1.k1; have g2 := G1.k2; have gf := G1.fr; have ha1 := (Below.refl w1.heap.size w1).alloc (Nat.le_refl _) (Obj.cells #[.int .i64 (r1 : Nat), .slice none 0 0, .slice none 0 0] 43); have hs1' := hs1.below ha1; have X1 := C3.new w1 (.int .i64 (r1 : Nat)) (.slice none 0 0) (.slice none 0 0) 43; have hb1' := (hb1.on ha1); have G1' := G1.but (But.of (b := b) ha1) nb))
  have hE := (Ended.mk hs1 ((But.of ha).trans hb1)).at h.le
  exact bodyPost_ret (v := .tuple #[.agg #[.int .i64 (r1 : Nat), .slice none 0 0, .slice none 0 0], .bool false]) (by simp [results, Tryd.results19, go_sem, *]) rfl ⟨_, _, _, _, _, _, _, false, i, rfl, ((((hE.far hbase (Nat.le_refl _) 0 _).far hbase (Nat.le_refl _) 1 _).far hbase (Nat.le_refl _) 2 _).alloc _).st, ((((hE.far hbase (Nat.le_refl _) 0 _).far hbase (Nat.le_refl _) 1 _).far hbase (Nat.le_refl _) 2 _).alloc _).bt, rfl, rfl⟩
set_option maxHeartbeats 2000000 in
set_option maxRecDepth 100000 in
theorem rule_1a {b : Nat} {lv av : Value} {L : List Nat} {i : Nat} {w : World} (first : Bool) (h : St b lv av L i w) {r1 : Nat} {M1 : List Nat} (hR : relP (L.drop i) = (r1, M1)) (hz : r1 = 1) (M2 : List Nat) (hq2 : seqP (blankP M1) [] = (M2, none)) :
    Calls Tryd.prog 19 #[pt b, .bool first] w fun e w' => ∃ rel sA sn sc tA tn tc ok k, e = .returned (.tuple #[.agg #[.int .i64 rel, .slice sA sn sc, .slice tA tn tc], .bool ok]) ∧ St b lv av L k w' ∧ But b w w' ∧ RA w.heap.size w' L k (ruleP first (L.drop i)) rel (.slice sA sn sc) (.slice tA tn tc) ok := by
  have hbase := h.rs.lt
  have hr : ruleP first (L.drop i) = (M2, none) := by unfold ruleP; rw [hR, if_neg (by subst hz; simp)]; simp only [hq2]
  rw [hr]
  clear hr
  have ha : Below w.heap.size w (w.alloc (Obj.cells #[.int .i64 0, .slice none 0 0, .slice none 0 0] 43)) := (Below.refl _ _).alloc (Nat.le_refl _) _
  have G0 := C3.new w (.int .i64 0) (.slice none 0 0) (.slice none 0 0) 43
  have h0 := h.below ha
  have c2 := h0.rs.c2
  have R1 := relation_rd h0
  rw [hR] at R1
  subst hz
  have R1 : Calls Tryd.prog 33 #[pt b] _ fun e w' => e = .returned (.int .i64 1) ∧ ∃ k, L.drop k = M1 ∧ St b lv av L k w' ∧ But b _ w' := R1
  replace R1 := Lib.hid R1
  have nb : w.heap.size ≠ b := Nat.ne_of_gt hbase
  have nb' := Nat.ne_of_lt hbase
  clear hR
  go_enter Tryd.func19, Tryd.ntmps19
  go_wp2_with (first
    | (go_at_call 33; (with_reducible refine R1.out.mono ?_); rintro e w1 ⟨rfl, k1, hk1, hs1, hb1⟩; have G1 := G0.but hb1 nb; have n1 := Nat.ne_of_lt hs1.rs.lt; have n1' := Nat.ne_of_gt hs1.rs.lt; have l1 := hs1.rs.lt; have l2 := G1.lt; have n2 := Nat.ne_of_lt G1.lt; have n2' := Nat.ne_of_gt G1.lt; have d2 := hs1.rs.c2; have e2 := hs1.rs.f2; have g0 := G1.k0; have g1 := G1.k1; have g2 := G1.k2; have gf := G1.fr; have ha1 := (Below.refl w1.heap.size w1).alloc (Nat.le_refl _) (Obj.cells #[.int .i64 1, .slice none 0 0, .slice none 0 0] 43); have hs1' := hs1.below ha1; have X1 := C3.new w1 (.int .i64 1) (.slice none 0 0) (.slice none 0 0) 43; have hb1' := (hb1.on ha1); have G1' := G1.but (But.of (b := b) ha1) nb)
    | (go_at_call 34; (with_reducible refine (seq_rd hs1').mono ?_); rintro e w2 ⟨sA, sn, sc, k2, rfl, hk2, hs2, hb2, ho2⟩; rw [hk1, hq2] at hk2 ho2; rw [hk1, hq2]; have G2 := G1'.but hb2 nb; have X2 := X1.but hb2 n1'; have m2 := hs2.rs.c2; have r2 := hs2.rs.f2; have y0 := X2.k0; have y1 := X2.k1; have y2 := X2.k2; have yf := X2.fr; have u0 := G2.k0; have u1 := G2.k1; have u2 := G2.k2; have uf := G2.fr; have l3 := hs2.rs.lt; have l4 := G2.lt; have l5 := X2.lt; have hsA := hs2.far hbase (Nat.le_of_lt l2) 1 (.slice sA sn sc); have XA := X2.set1 (.slice sA sn sc); have GA := G2.but (But.set w1.heap.size 1 w2 (.slice sA sn sc)) n2))
  all_goals
    have hE := (Ended.mk hs2 (((But.of ha).trans hb1').trans hb2)).far hbase (Nat.le_of_lt l2) 1 (.slice sA sn sc)
    exact bodyPost_ret (v := .tuple #[.agg #[.int .i64 1, .slice sA sn sc, .slice none 0 0], .bool false]) (by simp [results, Tryd.results19, go_sem, *]) rfl ⟨_, _, _, _, _, _, _, false, k2, rfl, (((hE.far hbase (Nat.le_refl _) 0 _).far hbase (Nat.le_refl _) 1 _).far hbase (Nat.le_refl _) 2 _).st, (((hE.far hbase (Nat.le_refl _) 0 _).far hbase (Nat.le_refl _) 1 _).far hbase (Nat.le_refl _) 2 _).bt, rfl, hk2⟩
set_option maxHeartbeats 2000000 in
set_option maxRecDepth 100000 in
theorem rule_1b {b : Nat} {lv av : Value} {L : List Nat} {i : Nat} {w : World} (h : St b lv av L i w) {r1 : Nat} {M1 : List Nat} (hR : relP (L.drop i) = (r1, M1)) (hz0 : r1 ≠ 0) (hz1 : r1 ≠ 1) (M2 : List Nat) (hq2 : seqP (blankP M1) [] = (M2, none)) :
    Calls Tryd.prog 19 #[pt b, .bool false] w fun e w' => ∃ rel sA sn sc tA tn tc ok k, e = .returned (.tuple #[.agg #[.int .i64 rel, .slice sA sn sc, .slice tA tn tc], .bool ok]) ∧ St b lv av L k w' ∧ But b w w' ∧ RA w.heap.size w' L k (ruleP false (L.drop i)) rel (.slice sA sn sc) (.slice tA tn tc) ok := by
  have hbase := h.rs.lt
  have hr : ruleP false (L.drop i) = (M2, none) := by unfold ruleP; rw [hR, if_neg (by simp; exact hz0)]; simp only [hq2]
  rw [hr]
  clear hr
  have ha : Below w.heap.size w (w.alloc (Obj.cells #[.int .i64 0, .slice none 0 0, .slice none 0 0] 43)) := (Below.refl _ _).alloc (Nat.le_refl _) _
  have G0 := C3.new w (.int .i64 0) (.slice none 0 0) (.slice none 0 0) 43
  have h0 := h.below ha
  have c2 := h0.rs.c2
  have R1 := relation_rd h0
  rw [hR] at R1
  have e0 : ((r1 : Int) == 0) = false := by rw [beq_eq_false_iff_ne]; omega
  have e1 : ((r1 : Int) == 1) = false := by rw [beq_eq_false_iff_ne]; omega
  have e1n : ((r1 : Int) != 1) = true := by rw [bne_iff_ne]; omega
  replace R1 := Lib.hid R1
  have nb : w.heap.size ≠ b := Nat.ne_of_gt hbase
  have nb' := Nat.ne_of_lt hbase
  clear hR
  go_enter Tryd.func19, Tryd.ntmps19
  go_wp2_with (first
    | (go_at_call 33; (with_reducible refine R1.out.mono ?_); rintro e w1 ⟨rfl, k1, hk1, hs1, hb1⟩; have G1 := G0.but hb1 nb; have n1 := Nat.ne_of_lt hs1.rs.lt; have n1' := Nat.ne_of_gt hs1.rs.lt; have l1 := hs1.rs.lt; have l2 := G1.lt; have n2 := Nat.ne_of_lt G1.lt; have n2' := Nat.ne_of_gt G1.lt; have d2 := hs1.rs.c2; have e2 := hs1.rs.f2; have g0 := G1.k0; have g1 := G1.k1; have g2 := G1.k2; have gf := G1.fr; have ha1 := (Below.refl w1.heap.size w1).alloc (Nat.le_refl _) (Obj.cells #[.int .i64 (r1 : Nat), .slice none 0 0, .slice none 0 0] 43); have hs1' := hs1.below ha1; have X1 := C3.new w1 (.int .i64 (r1 : Nat)) (.slice none 0 0) (.slice none 0 0) 43; have hb1' := (hb1.on ha1); have G1' := G1.but (But.of (b := b) ha1) nb)
    | (go_at_call 34; (with_reducible refine (seq_rd hs1').mono ?_); rintro e w2 ⟨sA, sn, sc, k2, rfl, hk2, hs2, hb2, ho2⟩; rw [hk1, hq2] at hk2 ho2; rw [hk1, hq2]; have G2 := G1'.but hb2 nb; have X2 := X1.but hb2 n1'; have m2 := hs2.rs.c2; have r2 := hs2.rs.f2; have y0 := X2.k0; have y1 := X2.k1; have y2 := X2.k2; have yf := X2.fr; have u0 := G2.k0; have u1 := G2.k1; have u2 := G2.k2; have uf := G2.fr; have l3 := hs2.rs.lt; have l4 := G2.lt; have l5 := X2.lt; have hsA := hs2.far hbase (Nat.le_of_lt l2) 1 (.slice sA sn sc); have XA := X2.set1 (.slice sA sn sc); have GA := G2.but (But.set w1.heap.size 1 w2 (.slice sA sn sc)) n2))
  have hE := (Ended.mk hs2 (((But.of ha).trans hb1').trans hb2)).far hbase (Nat.le_of_lt l2) 1 (.slice sA sn sc)
  exact bodyPost_ret (v := .tuple #[.agg #[.int .i64 (r1 : Nat), .slice sA sn sc, .slice none 0 0], .bool false]) (by simp [results, Tryd.results19, go_sem, *]) rfl ⟨_, _, _, _, _, _, _, false, k2, rfl, (((hE.far hbase (Nat.le_refl _) 0 _).far hbase (Nat.le_refl _) 1 _).far hbase (Nat.le_refl _) 2 _).st, (((hE.far hbase (Nat.le_refl _) 0 _).far hbase (Nat.le_refl _) 1 _).far hbase (Nat.le_refl _) 2 _).bt, rfl, hk2⟩
set_option maxHeartbeats 2000000 in
set_option maxRecDepth 100000 in
theorem rule_2 {b : Nat} {lv av : Value} {L : List Nat} {i : Nat} {w : World} (first : Bool) (h : St b lv av L i w) {r1 : Nat} {M1 : List Nat} (hR : relP (L.drop i) = (r1, M1)) (hz : r1 = 1) (M2 q : List Nat) (hq2 : seqP (blankP M1) [] = (M2, some q)) :
    Calls Tryd.prog 19 #[pt b, .bool first] w fun e w' => ∃ rel sA sn sc tA tn tc ok k, e = .returned (.tuple #[.agg #[.int .i64 rel, .slice sA sn sc, .slice tA tn tc], .bool ok]) ∧ St b lv av L k w' ∧ But b w w' ∧ RA w.heap.size w' L k (ruleP first (L.drop i)) rel (.slice sA sn sc) (.slice tA tn tc) ok := by
  have hbase := h.rs.lt
  have hr : ruleP first (L.drop i) = (blankP M2, some ⟨1, q, []⟩) := by unfold ruleP; rw [hR, if_neg (by subst hz; simp)]; simp only [hq2]; rw [if_pos hz]
  rw [hr]
  clear hr
  have ha : Below w.heap.size w (w.alloc (Obj.cells #[.int .i64 0, .slice none 0 0, .slice none 0 0] 43)) := (Below.refl _ _).alloc (Nat.le_refl _) _
  have G0 := C3.new w (.int .i64 0) (.slice none 0 0) (.slice none 0 0) 43
  have h0 := h.below ha
  have c2 := h0.rs.c2
  have R1 := relation_rd h0
  rw [hR] at R1
  subst hz
  have R1 : Calls Tryd.prog 33 #[pt b] _ fun e w' => e = .returned (.int .i64 1) ∧ ∃ k, L.drop k = M1 ∧ St b lv av L k w' ∧ But b _ w' := R1
  replace R1 := Lib.hid R1
  have nb : w.heap.size ≠ b := Nat.ne_of_gt hbase
  have nb' := Nat.ne_of_lt hbase
  clear hR
  go_enter Tryd.func19, Tryd.ntmps19
  go_wp2_with (first
    | (go_at_call 33; (with_reducible refine R1.out.mono ?_); rintro e w1 ⟨rfl, k1, hk1, hs1, hb1⟩; have G1 := G0.but hb1 nb; have n1 := Nat.ne_of_lt hs1.rs.lt; have n1' := Nat.ne_of_gt hs1.rs.lt; have l1 := hs1.rs.lt; have l2 := G1.lt; have n2 := Nat.ne_of_lt G1.lt; have n2' := Nat.ne_of_gt G1.lt; have d2 := hs1.rs.c2; have e2 := hs1.rs.f2; have g0 := G1.k0; have g1 := G1.k1; have g2 := G1.k2; have gf := G1.fr; have ha1 := (Below.refl w1.heap.size w1).alloc (Nat.le_refl _) (Obj.cells #[.int .i64 1, .slice none 0 0, .slice none 0 0] 43); have hs1' := hs1.below ha1; have X1 := C3.new w1 (.int .i64 1) (.slice none 0 0) (.slice none 0 0) 43; have hb1' := (hb1.on ha1); have G1' := G1.but (But.of (b := b) ha1) nb)
    | (go_at_call 34; (with_reducible refine (seq_rd hs1').mono ?_); rintro e w2 ⟨sA, sn, sc, k2, rfl, hk2, hs2, hb2, ho2⟩; rw [hk1, hq2] at hk2 ho2; rw [hk1, hq2]; have G2 := G1'.but hb2 nb; have X2 := X1.but hb2 n1'; have m2 := hs2.rs.c2; have r2 := hs2.rs.f2; have y0 := X2.k0; have y1 := X2.k1; have y2 := X2.k2; have yf := X2.fr; have u0 := G2.k0; have u1 := G2.k1; have u2 := G2.k2; have uf := G2.fr; have l3 := hs2.rs.lt; have l4 := G2.lt; have l5 := X2.lt; have hsA := hs2.far hbase (Nat.le_of_lt l2) 1 (.slice sA sn sc); have XA := X2.set1 (.slice sA sn sc); have GA := G2.but (But.set w1.heap.size 1 w2 (.slice sA sn sc)) n2)
    | (go_at_call 17; (with_reducible refine (blank_rd hsA).mono ?_); rintro e w3 ⟨rfl, k3, hk3, hs3, hb3⟩; rw [hk2] at hk3; have G3 := GA.but hb3 nb; have X3 := XA.but hb3 n1'; have q2 := hs3.rs.c2; have s2 := hs3.rs.f2; have z0 := X3.k0; have z1 := X3.k1; have z2 := X3.k2; have zf := X3.fr; have v0 := G3.k0; have v1 := G3.k1; have v2 := G3.k2; have vf := G3.fr; have l6 := hs3.rs.lt; have l7 := G3.lt; have l8 := X3.lt))
  all_goals
    have O2 := ho2 q rfl
    have hB2 : (w1.alloc (Obj.cells #[.int .i64 1, .slice none 0 0, .slice none 0 0] 43)).heap.size = w1.heap.size + 1 := by simp
    rw [hB2] at O2
    have O3 := (O2.far (show w1.heap.size < w1.heap.size + 1 by omega) 1 (.slice sA sn sc)).but hb3 (by omega)
    have O4 := O3.but (But.set b 2 w3 (.int .i64 (k2 : Nat))) (by omega)
    have hE := (Ended.mk hs3 (((((But.of ha).trans hb1').trans hb2).farB (Nat.le_of_lt l2) 1 (.slice sA sn sc)).trans hb3)).at hs2.le
    exact bodyPost_ret (v := .tuple #[.agg #[.int .i64 1, .slice sA sn sc, .slice none 0 0], .bool true]) (by simp [results, Tryd.results19, go_sem, *]) rfl ⟨_, _, _, _, _, _, _, true, k2, rfl, (((hE.far hbase (Nat.le_refl _) 0 _).far hbase (Nat.le_refl _) 1 _).far hbase (Nat.le_refl _) 2 _).st, (((hE.far hbase (Nat.le_refl _) 0 _).far hbase (Nat.le_refl _) 1 _).far hbase (Nat.le_refl _) 2 _).bt, rfl, by rw [hk2], rfl, (((O4.far (show w.heap.size < w1.heap.size + 1 by omega) 0 _).far (show w.heap.size < w1.heap.size + 1 by omega) 1 _).far (show w.heap.size < w1.heap.size + 1 by omega) 2 _).base (by omega), .inl ⟨rfl, rfl⟩⟩
set_option maxHeartbeats 2000000 in
set_option maxRecDepth 100000 in
theorem rule_3 {b : Nat} {lv av : Value} {L : List Nat} {i : Nat} {w : World} (h : St b lv av L i w) {r1 : Nat} {M1 : List Nat} (hR : relP (L.drop i) = (r1, M1)) (hz0 : r1 ≠ 0) (hz1 : r1 ≠ 1) (M2 q : List Nat) (hq2 : seqP (blankP M1) [] = (M2, some q)) (h47 : hd (blankP M2) ≠ 47) :
    Calls Tryd.prog 19 #[pt b, .bool false] w fun e w' => ∃ rel sA sn sc tA tn tc ok k, e = .returned (.tuple #[.agg #[.int .i64 rel, .slice sA sn sc, .slice tA tn tc], .bool ok]) ∧ St b lv av L k w' ∧ But b w w' ∧ RA w.heap.size w' L k (ruleP false (L.drop i)) rel (.slice sA sn sc) (.slice tA tn tc) ok := by
  have hbase := h.rs.lt
  have hr : ruleP false (L.drop i) = (blankP M2, some ⟨r1, q, []⟩) := by
    unfold ruleP
    rw [hR, if_neg (by simp; exact hz0)]
    simp only [hq2]
    rw [if_neg hz1]
    rcases hM : blankP M2 with _ | ⟨c, M3⟩
    · rfl
    · rw [hM] at h47
      have hc : c ≠ 47 := by intro hc; subst hc; exact h47 rfl
      simp only [if_neg hc]
  rw [hr]
  clear hr
  have ha : Below w.heap.size w (w.alloc (Obj.cells #[.int .i64 0, .slice none 0 0, .slice none 0 0] 43)) := (Below.refl _ _).alloc (Nat.le_refl _) _
  have G0 := C3.new w (.int .i64 0) (.slice none 0 0) (.slice none 0 0) 43
  have h0 := h.below ha
  have c2 := h0.rs.c2
  have R1 := relation_rd h0
  rw [hR] at R1
  have e0 : ((r1 : Int) == 0) = false := by rw [beq_eq_false_iff_ne]; omega
  have e1 : ((r1 : Int) == 1) = false := by rw [beq_eq_false_iff_ne]; omega
  have e1n : ((r1 : Int) != 1) = true := by rw [bne_iff_ne]; omega
  have hsg : hd (blankP M2) = hd (blankP M2) := rfl
  have e47 : (hd (blankP M2) != 47) = true := by rw [bne_iff_ne]; exact h47
  clear h47
  replace R1 := Lib.hid R1
  have nb : w.heap.size ≠ b := Nat.ne_of_gt hbase
  have nb' := Nat.ne_of_lt hbase
  clear hR
  go_enter Tryd.func19, Tryd.ntmps19
  go_wp2_with (first
    | (go_at_call 33; (with_reducible refine R1.out.mono ?_); rintro e w1 ⟨rfl, k1, hk1, hs1, hb1⟩; have G1 := G0.but hb1 nb; have n1 := Nat.ne_of_lt hs1.rs.lt; have n1' := Nat.ne_of_gt hs1.rs.lt; have l1 := hs1.rs.lt; have l2 := G1.lt; have n2 := Nat.ne_of_lt G1.lt; have n2' := Nat.ne_of_gt G1.lt; have d2 := hs1.rs.c2; have e2 := hs1.rs.f2; have g0 := G1.k0; have g1 := G1.k1; have g2 := G1.k2; have gf := G1.fr; have ha1 := (Below.refl w1.heap.size w1).alloc (Nat.le_refl _) (Obj.cells #[.int .i64 (r1 : Nat), .slice none 0 0, .slice none 0 0] 43); have hs1' := hs1.below ha1; have X1 := C3.new w1 (.int .i64 (r1 : Nat)) (.slice none 0 0) (.slice none 0 0) 43; have hb1' := (hb1.on ha1); have G1' := G1.but (But.of (b := b) ha1) nb)
    | (go_at_call 34; (with_reducible refine (seq_rd hs1').mono ?_); rintro e w2 ⟨sA, sn, sc, k2, rfl, hk2, hs2, hb2, ho2⟩; rw [hk1, hq2] at hk2 ho2; rw [hk1, hq2]; have G2 := G1'.but hb2 nb; have X2 := X1.but hb2 n1'; have m2 := hs2.rs.c2; have r2 := hs2.rs.f2; have y0 := X2.k0; have y1 := X2.k1; have y2 := X2.k2; have yf := X2.fr; have u0 := G2.k0; have u1 := G2.k1; have u2 := G2.k2; have uf := G2.fr; have l3 := hs2.rs.lt; have l4 := G2.lt; have l5 := X2.lt; have hsA := hs2.far hbase (Nat.le_of_lt l2) 1 (.slice sA sn sc); have XA := X2.set1 (.slice sA sn sc); have GA := G2.but (But.set w1.heap.size 1 w2 (.slice sA sn sc)) n2)
    | (go_at_call 17; (with_reducible refine (blank_rd hsA).mono ?_); rintro e w3 ⟨rfl, k3, hk3, hs3, hb3⟩; rw [hk2] at hk3; have G3 := GA.but hb3 nb; have X3 := XA.but hb3 n1'; have q2 := hs3.rs.c2; have s2 := hs3.rs.f2; have z0 := X3.k0; have z1 := X3.k1; have z2 := X3.k2; have zf := X3.fr; have v0 := G3.k0; have v1 := G3.k1; have v2 := G3.k2; have vf := G3.fr; have l6 := hs3.rs.lt; have l7 := G3.lt; have l8 := X3.lt)
    | (go_at_call 18; (with_reducible refine (sign_rd hs3).mono ?_); rintro e w4 ⟨rfl, hb4⟩; rw [hk3]; (try rw [hsg]); have G4 := G3.but (But.of (b := b) hb4) nb; have X4 := X3.but (But.of (b := b) hb4) n1'; have hs4 := hs3.below hb4; have hle4 := hs4.le; have hbg4 := hs4.big; have p2 := hs4.rs.c2; have t2 := hs4.rs.f2; have a0 := X4.k0; have a1 := X4.k1; have a2 := X4.k2; have af := X4.fr; have b0 := G4.k0; have b1 := G4.k1; have b2 := G4.k2; have bf := G4.fr; have l9 := hs4.rs.lt; have l10 := G4.lt; have l11 := X4.lt))
  skip
  have O2 := ho2 q rfl
  have hB2 : (w1.alloc (Obj.cells #[.int .i64 (r1 : Nat), .slice none 0 0, .slice none 0 0] 43)).heap.size = w1.heap.size + 1 := by simp
  rw [hB2] at O2
  have O3 := (O2.far (show w1.heap.size < w1.heap.size + 1 by omega) 1 (.slice sA sn sc)).but hb3 (by omega)
  have O4 := (O3.below hb4).but (But.set b 2 w4 (.int .i64 (k2 : Nat))) (by omega)
  have hE := (Ended.mk hs4 ((((((But.of ha).trans hb1').trans hb2).farB (Nat.le_of_lt l2) 1 (.slice sA sn sc)).trans hb3).on hb4)).at hs2.le
  exact bodyPost_ret (v := .tuple #[.agg #[.int .i64 (r1 : Nat), .slice sA sn sc, .slice none 0 0], .bool true]) (by simp [results, Tryd.results19, go_sem, *]) rfl ⟨_, _, _, _, _, _, _, true, k2, rfl, (((hE.far hbase (Nat.le_refl _) 0 _).far hbase (Nat.le_refl _) 1 _).far hbase (Nat.le_refl _) 2 _).st, (((hE.far hbase (Nat.le_refl _) 0 _).far hbase (Nat.le_refl _) 1 _).far hbase (Nat.le_refl _) 2 _).bt, rfl, by rw [hk2], rfl, (((O4.far (show w.heap.size < w1.heap.size + 1 by omega) 0 _).far (show w.heap.size < w1.heap.size + 1 by omega) 1 _).far (show w.heap.size < w1.heap.size + 1 by omega) 2 _).base (by omega), .inl ⟨rfl, rfl⟩⟩
set_option maxHeartbeats 2000000 in
set_option maxRecDepth 100000 in
theorem rule_4 {b : Nat} {lv av : Value} {L : List Nat} {i : Nat} {w : World} (h : St b lv av L i w) {r1 : Nat} {M1 : List Nat} (hR : relP (L.drop i) = (r1, M1)) (hz0 : r1 ≠ 0) (hz1 : r1 ≠ 1) (M2 q : List Nat) (hq2 : seqP (blankP M1) [] = (M2, some q)) (M3 M4 : List Nat) (hM3 : blankP M2 = 47 :: M3) (hq5 : seqP (blankP M3) [] = (M4, none)) :
    Calls Tryd.prog 19 #[pt b, .bool false] w fun e w' => ∃ rel sA sn sc tA tn tc ok k, e = .returned (.tuple #[.agg #[.int .i64 rel, .slice sA sn sc, .slice tA tn tc], .bool ok]) ∧ St b lv av L k w' ∧ But b w w' ∧ RA w.heap.size w' L k (ruleP false (L.drop i)) rel (.slice sA sn sc) (.slice tA tn tc) ok := by
  have hbase := h.rs.lt
  have hr : ruleP false (L.drop i) = (M4, none) := by
    unfold ruleP
    rw [hR, if_neg (by simp; exact hz0)]
    simp only [hq2]
    rw [if_neg hz1]
    simp only [hM3, if_true, hq5]
  rw [hr]
  clear hr
  have ha : Below w.heap.size w (w.alloc (Obj.cells #[.int .i64 0, .slice none 0 0, .slice none 0 0] 43)) := (Below.refl _ _).alloc (Nat.le_refl _) _
  have G0 := C3.new w (.int .i64 0) (.slice none 0 0) (.slice none 0 0) 43
  have h0 := h.below ha
  have c2 := h0.rs.c2
  have R1 := relation_rd h0
  rw [hR] at R1
  have e0 : ((r1 : Int) == 0) = false := by rw [beq_eq_false_iff_ne]; omega
  have e1 : ((r1 : Int) == 1) = false := by rw [beq_eq_false_iff_ne]; omega
  have e1n : ((r1 : Int) != 1) = true := by rw [bne_iff_ne]; omega
  have hsg : hd (blankP M2) = 47 := by rw [hM3]; rfl
  replace R1 := Lib.hid R1
  have nb : w.heap.size ≠ b := Nat.ne_of_gt hbase
  have nb' := Nat.ne_of_lt hbase
  clear hR
  go_enter Tryd.func19, Tryd.ntmps19
  go_wp2_with (first
    | (go_at_call 33; (with_reducible refine R1.out.mono ?_); rintro e w1 ⟨rfl, k1, hk1, hs1, hb1⟩; have G1 := G0.but hb1 nb; have n1 := Nat.ne_of_lt hs1.rs.lt; have n1' := Nat.ne_of_gt hs1.rs.lt; have l1 := hs1.rs.lt; have l2 := G1.lt; have n2 := Nat.ne_of_lt G1.lt; have n2' := Nat.ne_of_gt G1.lt; have d2 := hs1.rs.c2; have e2 := hs1.rs.f2; have g0 := G1.k0; have g1 := G1.k1; have g2 := G1.k2; have gf := G1.fr; have ha1 := (Below.refl w1.heap.size w1).alloc (Nat.le_refl _) (Obj.cells #[.int .i64 (r1 : Nat), .slice none 0 0, .slice none 0 0] 43); have hs1' := hs1.below ha1; have X1 := C3.new w1 (.int .i64 (r1 : Nat)) (.slice none 0 0) (.slice none 0 0) 43; have hb1' := (hb1.on ha1); have G1' := G1.but (But.of (b := b) ha1) nb)
    | (go_at_call 34; (with_reducible refine (seq_rd hs1').mono ?_); rintro e w2 ⟨sA, sn, sc, k2, rfl, hk2, hs2, hb2, ho2⟩; rw [hk1, hq2] at hk2 ho2; rw [hk1, hq2]; have G2 := G1'.but hb2 nb; have X2 := X1.but hb2 n1'; have m2 := hs2.rs.c2; have r2 := hs2.rs.f2; have y0 := X2.k0; have y1 := X2.k1; have y2 := X2.k2; have yf := X2.fr; have u0 := G2.k0; have u1 := G2.k1; have u2 := G2.k2; have uf := G2.fr; have l3 := hs2.rs.lt; have l4 := G2.lt; have l5 := X2.lt; have hsA := hs2.far hbase (Nat.le_of_lt l2) 1 (.slice sA sn sc); have XA := X2.set1 (.slice sA sn sc); have GA := G2.but (But.set w1.heap.size 1 w2 (.slice sA sn sc)) n2)
    | (go_at_call 17; (with_reducible refine (blank_rd hsA).mono ?_); rintro e w3 ⟨rfl, k3, hk3, hs3, hb3⟩; rw [hk2] at hk3; have G3 := GA.but hb3 nb; have X3 := XA.but hb3 n1'; have q2 := hs3.rs.c2; have s2 := hs3.rs.f2; have z0 := X3.k0; have z1 := X3.k1; have z2 := X3.k2; have zf := X3.fr; have v0 := G3.k0; have v1 := G3.k1; have v2 := G3.k2; have vf := G3.fr; have l6 := hs3.rs.lt; have l7 := G3.lt; have l8 := X3.lt)
    | (go_at_call 18; (with_reducible refine (sign_rd hs3).mono ?_); rintro e w4 ⟨rfl, hb4⟩; rw [hk3]; (try rw [hsg]); have G4 := G3.but (But.of (b := b) hb4) nb; have X4 := X3.but (But.of (b := b) hb4) n1'; have hs4 := hs3.below hb4; have hle4 := hs4.le; have hbg4 := hs4.big; have p2 := hs4.rs.c2; have t2 := hs4.rs.f2; have a0 := X4.k0; have a1 := X4.k1; have a2 := X4.k2; have af := X4.fr; have b0 := G4.k0; have b1 := G4.k1; have b2 := G4.k2; have bf := G4.fr; have l9 := hs4.rs.lt; have l10 := G4.lt; have l11 := X4.lt)
    | (go_at_call 34; (with_reducible refine (seq_rd (hs4.inc (drop_lt (hk3.trans hM3)))).mono ?_); rintro e w5 ⟨tA, tn, tc, k5, rfl, hk5, hs5, hb5, ho5⟩; rw [drop_next (hk3.trans hM3), hq5] at hk5 ho5; rw [drop_next (hk3.trans hM3), hq5]; have G5 := (G4.but (But.set b 2 w4 (.int .i64 ((k3 : Int) + 1))) nb).but hb5 nb; have X5 := (X4.but (But.set b 2 w4 (.int .i64 ((k3 : Int) + 1))) n1').but hb5 n1'; have cc2 := hs5.rs.c2; have a50 := X5.k0; have a51 := X5.k1; have a52 := X5.k2; have a5f := X5.fr; have b50 := G5.k0; have b51 := G5.k1; have b52 := G5.k2; have b5f := G5.fr; have l12 := hs5.rs.lt; have l13 := G5.lt; have l14 := X5.lt))
  have hE := (Ended.mk hs5 ((((((((But.of ha).trans hb1').trans hb2).farB (Nat.le_of_lt l2) 1 (.slice sA sn sc)).trans hb3).on hb4).put 2 (.int .i64 ((k3 : Int) + 1))).trans hb5)).far hbase (Nat.le_of_lt l2) 2 (.slice tA tn tc)
  exact bodyPost_ret (v := .tuple #[.agg #[.int .i64 (r1 : Nat), .slice sA sn sc, .slice tA tn tc], .bool false]) (by simp [results, Tryd.results19, go_sem, *]) rfl ⟨_, _, _, _, _, _, _, false, k5, rfl, (((hE.far hbase (Nat.le_refl _) 0 _).far hbase (Nat.le_refl _) 1 _).far hbase (Nat.le_refl _) 2 _).st, (((hE.far hbase (Nat.le_refl _) 0 _).far hbase (Nat.le_refl _) 1 _).far hbase (Nat.le_refl _) 2 _).bt, rfl, hk5⟩
set_option maxHeartbeats 2000000 in
set_option maxRecDepth 100000 in
theorem rule_5 {b : Nat} {lv av : Value} {L : List Nat} {i : Nat} {w : World} (h : St b lv av L i w) {r1 : Nat} {M1 : List Nat} (hR : relP (L.drop i) = (r1, M1)) (hz0 : r1 ≠ 0) (hz1 : r1 ≠ 1) (M2 q : List Nat) (hq2 : seqP (blankP M1) [] = (M2, some q)) (M3 M4 : List Nat) (hM3 : blankP M2 = 47 :: M3) (q' : List Nat) (hq5 : seqP (blankP M3) [] = (M4, some q')) :
    Calls Tryd.prog 19 #[pt b, .bool false] w fun e w' => ∃ rel sA sn sc tA tn tc ok k, e = .returned (.tuple #[.agg #[.int .i64 rel, .slice sA sn sc, .slice tA tn tc], .bool ok]) ∧ St b lv av L k w' ∧ But b w w' ∧ RA w.heap.size w' L k (ruleP false (L.drop i)) rel (.slice sA sn sc) (.slice tA tn tc) ok := by
  have hbase := h.rs.lt
  have hr : ruleP false (L.drop i) = (blankP M4, some ⟨r1, q, q'⟩) := by
    unfold ruleP
    rw [hR, if_neg (by simp; exact hz0)]
    simp only [hq2]
    rw [if_neg hz1]
    simp only [hM3, if_true, hq5]
  rw [hr]
  clear hr
  have ha : Below w.heap.size w (w.alloc (Obj.cells #[.int .i64 0, .slice none 0 0, .slice none 0 0] 43)) := (Below.refl _ _).alloc (Nat.le_refl _) _
  have G0 := C3.new w (.int .i64 0) (.slice none 0 0) (.slice none 0 0) 43
  have h0 := h.below ha
  have c2 := h0.rs.c2
  have R1 := relation_rd h0
  rw [hR] at R1
  have e0 : ((r1 : Int) == 0) = false := by rw [beq_eq_false_iff_ne]; omega
  have e1 : ((r1 : Int) == 1) = false := by rw [beq_eq_false_iff_ne]; omega
  have e1n : ((r1 : Int) != 1) = true := by rw [bne_iff_ne]; omega
  have hsg : hd (blankP M2) = 47 := by rw [hM3]; rfl
  replace R1 := Lib.hid R1
  have nb : w.heap.size ≠ b := Nat.ne_of_gt hbase
  have nb' := Nat.ne_of_lt hbase
  clear hR
  go_enter Tryd.func19, Tryd.ntmps19
  go_wp2_with (first
    | (go_at_call 33; (with_reducible refine R1.out.mono ?_); rintro e w1 ⟨rfl, k1, hk1, hs1, hb1⟩; have G1 := G0.but hb1 nb; have n1 := Nat.ne_of_lt hs1.rs.lt; have n1' := Nat.ne_of_gt hs1.rs.lt; have l1 := hs1.rs.lt; have l2 := G1.lt; have n2 := Nat.ne_of_lt G1.lt; have n2' := Nat.ne_of_gt G1.lt; have d2 := hs1.rs.c2; have e2 := hs1.rs.f2; have g0 := G1.k0; have g1 := G1.k1; have g2 := G1.k2; have gf := G1.fr; have ha1 := (Below.refl w1.heap.size w1).alloc (Nat.le_refl _) (Obj.cells #[.int .i64 (r1 : Nat), .slice none 0 0, .slice none 0 0] 43); have hs1' := hs1.below ha1; have X1 := C3.new w1 (.int .i64 (r1 : Nat)) (.slice none 0 0) (.slice none 0 0) 43; have hb1' := (hb1.on ha1); have G1' := G1.but (But.of (b := b) ha1) nb)
    | (go_at_call 34; (with_reducible refine (seq_rd hs1').mono ?_); rintro e w2 ⟨sA, sn, sc, k2, rfl, hk2, hs2, hb2, ho2⟩; rw [hk1, hq2] at hk2 ho2; rw [hk1, hq2]; have G2 := G1'.but hb2 nb; have X2 := X1.but hb2 n1'; have m2 := hs2.rs.c2; have r2 := hs2.rs.f2; have y0 := X2.k0; have y1 := X2.k1; have y2 := X2.k2; have yf := X2.fr; have u0 := G2.k0; have u1 := G2.k1; have u2 := G2.k2; have uf := G2.fr; have l3 := hs2.rs.lt; have l4 := G2.lt; have l5 := X2.lt; have hsA := hs2.far hbase (Nat.le_of_lt l2) 1 (.slice sA sn sc); have XA := X2.set1 (.slice sA sn sc); have GA := G2.but (But.set w1.heap.size 1 w2 (.slice sA sn sc)) n2)
    | (go_at_call 17; (with_reducible refine (blank_rd hsA).mono ?_); rintro e w3 ⟨rfl, k3, hk3, hs3, hb3⟩; rw [hk2] at hk3; have G3 := GA.but hb3 nb; have X3 := XA.but hb3 n1'; have q2 := hs3.rs.c2; have s2 := hs3.rs.f2; have z0 := X3.k0; have z1 := X3.k1; have z2 := X3.k2; have zf := X3.fr; have v0 := G3.k0; have v1 := G3.k1; have v2 := G3.k2; have vf := G3.fr; have l6 := hs3.rs.lt; have l7 := G3.lt; have l8 := X3.lt)
    | (go_at_call 18; (with_reducible refine (sign_rd hs3).mono ?_); rintro e w4 ⟨rfl, hb4⟩; rw [hk3]; (try rw [hsg]); have G4 := G3.but (But.of (b := b) hb4) nb; have X4 := X3.but (But.of (b := b) hb4) n1'; have hs4 := hs3.below hb4; have hle4 := hs4.le; have hbg4 := hs4.big; have p2 := hs4.rs.c2; have t2 := hs4.rs.f2; have a0 := X4.k0; have a1 := X4.k1; have a2 := X4.k2; have af := X4.fr; have b0 := G4.k0; have b1 := G4.k1; have b2 := G4.k2; have bf := G4.fr; have l9 := hs4.rs.lt; have l10 := G4.lt; have l11 := X4.lt)
    | (go_at_call 34; (with_reducible refine (seq_rd (hs4.inc (drop_lt (hk3.trans hM3)))).mono ?_); rintro e w5 ⟨tA, tn, tc, k5, rfl, hk5, hs5, hb5, ho5⟩; rw [drop_next (hk3.trans hM3), hq5] at hk5 ho5; rw [drop_next (hk3.trans hM3), hq5]; have G5 := (G4.but (But.set b 2 w4 (.int .i64 ((k3 : Int) + 1))) nb).but hb5 nb; have X5 := (X4.but (But.set b 2 w4 (.int .i64 ((k3 : Int) + 1))) n1').but hb5 n1'; have cc2 := hs5.rs.c2; have a50 := X5.k0; have a51 := X5.k1; have a52 := X5.k2; have a5f := X5.fr; have b50 := G5.k0; have b51 := G5.k1; have b52 := G5.k2; have b5f := G5.fr; have l12 := hs5.rs.lt; have l13 := G5.lt; have l14 := X5.lt))
  skip
  have O2 := ho2 q rfl
  have hB2 : (w1.alloc (Obj.cells #[.int .i64 (r1 : Nat), .slice none 0 0, .slice none 0 0] 43)).heap.size = w1.heap.size + 1 := by simp
  rw [hB2] at O2
  have O3 := (O2.far (show w1.heap.size < w1.heap.size + 1 by omega) 1 (.slice sA sn sc)).but hb3 (by omega)
  have hB5 : (w4.setCell ⟨b, 2, none⟩ (.int .i64 ((k3 : Int) + 1))).heap.size = w4.heap.size := by simp
  have O5 := ho5 q' rfl
  rw [hB5] at O5
  have z4 : w1.heap.size < w4.heap.size := l11
  have z5 : w.heap.size < w4.heap.size := l10
  have P5 := ((((O5.far z4 2 (.slice tA tn tc)).far z5 0 (.int .i64 (r1 : Nat))).far z5 1 (.slice sA sn sc)).far z5 2 (.slice tA tn tc)).base (B' := w.heap.size) (by omega)
  have O6 := (((O3.below hb4).but (But.set b 2 w4 (.int .i64 ((k3 : Int) + 1))) (by omega)).but hb5 (by omega)).far (show w1.heap.size < w1.heap.size + 1 by omega) 2 (.slice tA tn tc)
  have hE := (Ended.mk hs5 ((((((((But.of ha).trans hb1').trans hb2).farB (Nat.le_of_lt l2) 1 (.slice sA sn sc)).trans hb3).on hb4).put 2 (.int .i64 ((k3 : Int) + 1))).trans hb5)).far hbase (Nat.le_of_lt l2) 2 (.slice tA tn tc)
  exact bodyPost_ret (v := .tuple #[.agg #[.int .i64 (r1 : Nat), .slice sA sn sc, .slice tA tn tc], .bool true]) (by simp [results, Tryd.results19, go_sem, *]) rfl ⟨_, _, _, _, _, _, _, true, k5, rfl, (((hE.far hbase (Nat.le_refl _) 0 _).far hbase (Nat.le_refl _) 1 _).far hbase (Nat.le_refl _) 2 _).st, (((hE.far hbase (Nat.le_refl _) 0 _).far hbase (Nat.le_refl _) 1 _).far hbase (Nat.le_refl _) 2 _).bt, rfl, by rw [hk5], rfl, (((O6.far (show w.heap.size < w1.heap.size + 1 by omega) 0 _).far (show w.heap.size < w1.heap.size + 1 by omega) 1 _).far (show w.heap.size < w1.heap.size + 1 by omega) 2 _).base (by omega), P5⟩
end Go.Proofs.YtmpnblibbcocpaaDoor
