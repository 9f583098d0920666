
/- The document's Parse of rules. Conditions stand at each theorem. -/
import Derived.Test.YtmpnblibbcocpaaDoorRulesR
namespace Go.Proofs.YtmpnblibbcocpaaDoor
open Go.ChangeShapes Go.WideShapes Go.ChangeAt Go.RowKit Go.Lib
set_option linter.unusedVariables false

theorem T2.far {b B : Nat} {s : ByteArray} {i : Nat} {w : World} (h : T2 b s i w) {c : Nat} (hB : b < B) (hc : B ≤ c) (o : Nat) (u : Value) : T2 b s i (w.setCell ⟨c, o, none⟩ u) :=
  h.upto ((Below.refl B w).setCell (p := ⟨c, o, none⟩) hc u) hB
theorem T2.not {b : Nat} {s : ByteArray} {i : Nat} {w : World} (h : T2 b s i w) {c : Nat} (hc : c ≠ b) (o : Nat) (u : Value) : T2 b s i (w.setCell ⟨c, o, none⟩ u) :=
  have hb := But.set c o w u
  ⟨(hb.cell (p := ⟨b, 0, none⟩) h.lt (fun e => hc e.symm)).trans h.c0, (hb.cell (p := ⟨b, 1, none⟩) h.lt (fun e => hc e.symm)).trans h.c1, (hb.frozen (p := ⟨b, 1, none⟩) h.lt (fun e => hc e.symm)).trans h.f1, Nat.lt_of_lt_of_le h.lt hb.size, h.le, h.big⟩
theorem RowR.recap {w : World} {B n c : Nat} {A : Option Addr} {acc : List (Rl × Value × Value)} (h : RowR w B (.slice A n n) acc) (hc : n ≤ c) : RowR w B (.slice A n c) acc := by
  obtain ⟨A', c', e, hc', hr⟩ := h.ex
  injection e with e1 e2 e3
  subst e1 e2
  exact ⟨⟨_, c, rfl, hc, hr⟩, h.own⟩
theorem infoR5 : (Tryd.prog.info? 35).map (fun i => (i.zero, i.size, i.bytes)) = some (some (.agg #[.int .i64 0, .slice none 0 0, .slice none 0 0]), 3, 56) := by kernel_rfl
theorem rule5_ne_int : (35 : Nat) ≠ 3 := by decide
/-- what the document's Parse answers -/
def PAns2 (w' : World) (B total : Nat) (R : RulesEnd) (e : Ending) : Prop := match R with
  | .ok l => ∃ A c acc, e = .returned (.agg #[.slice A l.length c, .int .i64 0, .int .i64 0]) ∧ acc.map (·.1) = l ∧ RowR w' B (.slice A l.length c) acc
  | .many => e = .returned (.agg #[.slice none 0 0, .int .i64 0, .int .i64 65])
  | .wrong M => e = .returned (.agg #[.slice none 0 0, .int .i64 (total - (jn M).length : Nat), .int .i64 10])
theorem pos_rest {s : ByteArray} {k : Nat} (h : k ≤ s.size) {M : List Nat} (hM : rest s k = M) : (bl s).length - (jn M).length = k := by
  subst hM
  unfold rest
  rw [jn_sgs _ _ (Nat.le_refl _), List.length_drop, bl_len]
  omega
theorem C3.cells {c : Nat} {x y z : Value} {w : World} (h : C3 c x y z w) : w.cell? ⟨c, 0, none⟩ = some x ∧ w.cell? ⟨c, 1, none⟩ = some y ∧ w.cell? ⟨c, 2, none⟩ = some z ∧ (∀ o, w.frozen? ⟨c, o, none⟩ = false) := ⟨h.k0, h.k1, h.k2, h.fr⟩
theorem C3.below {c : Nat} {x y z : Value} {w w' : World} (h : C3 c x y z w) (hb : Below w.heap.size w w') : C3 c x y z w' :=
  ⟨(hb.cell (p := ⟨c, 0, none⟩) h.lt).trans h.k0, (hb.cell (p := ⟨c, 1, none⟩) h.lt).trans h.k1, (hb.cell (p := ⟨c, 2, none⟩) h.lt).trans h.k2, fun o => (hb.frozen (p := ⟨c, o, none⟩) h.lt).trans (h.fr o), Nat.lt_of_lt_of_le h.lt hb.size⟩
theorem C3.upto {B c : Nat} {x y z : Value} {w w' : World} (h : C3 c x y z w) (hb : Below B w w') (hc : c < B) : C3 c x y z w' :=
  ⟨(hb.cell (p := ⟨c, 0, none⟩) hc).trans h.k0, (hb.cell (p := ⟨c, 1, none⟩) hc).trans h.k1, (hb.cell (p := ⟨c, 2, none⟩) hc).trans h.k2, fun o => (hb.frozen (p := ⟨c, o, none⟩) hc).trans (h.fr o), Nat.lt_of_lt_of_le h.lt hb.size⟩

theorem fin_row {W : World} {B T c r : Nat} {A : Option Addr} {acc : List (Rl × Value × Value)} (h : W.ownsRow B T 3 (.slice A acc.length c) acc.length (cellsR acc)) (ho : ∀ p ∈ acc, Own W B p.2.1 p.1.seq ∧ Own W B p.2.2 p.1.exp) (hr : r < B) (u0 u1 u2 : Value) :
    RowR (((W.setCell ⟨r, 0, none⟩ u0).setCell ⟨r, 1, none⟩ u1).setCell ⟨r, 2, none⟩ u2) B (.slice A acc.length c) acc := by
  have h3 := own_but (own_but (own_but h (But.set r 0 W u0) hr) (But.set r 1 _ u1) hr) (But.set r 2 _ u2) hr
  obtain ⟨hc, hR⟩ := RowR.of_row h3 (fun p hp => ⟨(((ho p hp).1.far hr 0 u0).far hr 1 u1).far hr 2 u2, (((ho p hp).2.far hr 0 u0).far hr 1 u1).far hr 2 u2⟩)
  exact hR.recap hc
theorem below3 {w W : World} {r : Nat} (h : Below w.heap.size w W) (hr : w.heap.size ≤ r) (u0 u1 u2 : Value) : Below w.heap.size w (((W.setCell ⟨r, 0, none⟩ u0).setCell ⟨r, 1, none⟩ u1).setCell ⟨r, 2, none⟩ u2) := ((h.setCell hr u0).setCell hr u1).setCell hr u2
theorem one_rule3 (w : World) (p : Addr) (u : Value) (a b c : Value) (t : TypeId) : ∀ j v, [a, b, c][j]? = some v → ((w.setCell p u).alloc (.cells #[a, b, c] t)).cell? ((⟨w.heap.size, 0, none⟩ : Addr).add j) = some v := by
  have h := one_rule (w.setCell p u) a b c t
  rw [size_set] at h
  exact h

theorem Own.nil (w : World) (B : Nat) : Own w B (.slice none 0 0) [] := .inl ⟨rfl, rfl⟩
theorem rule_len5 {M M1 M2 M3 M4 q q' : List Nat} {r1 : Nat} (hR : relP M = (r1, M1)) (hz0 : r1 ≠ 0) (hq2 : seqP (blankP M1) [] = (M2, some q)) (hM3 : blankP M2 = 47 :: M3) (hq5 : seqP (blankP M3) [] = (M4, some q')) : M4.length < M.length := by
  have h1 := relP_len M (by rw [hR]; exact hz0)
  rw [hR] at h1
  have h2 := blankP_len M1
  have h3 := seqP_len _ (blankP M1) [] (Nat.le_refl _)
  rw [hq2] at h3
  have h4 := blankP_len M2
  rw [hM3] at h4
  have h5 := blankP_len M3
  have h6 := seqP_len _ (blankP M3) [] (Nat.le_refl _)
  rw [hq5] at h6
  simp only [List.length_cons] at *
  omega

set_option maxHeartbeats 40000000 in
set_option maxRecDepth 100000 in
theorem parse_rf (s : ByteArray) (w : World) (hs : s.size ≤ 100000) :
    Calls Tryd.prog 8 #[.string s] w fun e w' => PAns2 w' w.heap.size (bl s).length (parseP (sgs (bl s)).length [] (blankP (sgs (bl s)))) e ∧ Below w.heap.size w w' := by
  obtain ⟨j0, hi', hy0, hy1, hy2⟩ := info_parts infoR5
  have hr0 : rest s 0 = sgs (bl s) := by unfold rest; rw [List.drop_zero]
  rw [← hr0]
  clear hr0
  have hL : (rest s 0).length ≤ 100000 := by
    unfold rest
    have := sgs_len _ ((bl s).drop 0) (Nat.le_refl _)
    rw [List.drop_zero, bl_len] at this
    rw [List.drop_zero]
    omega
  obtain ⟨F, hF⟩ : ∃ F, (rest s 0).length = F := ⟨_, rfl⟩
  rw [hF] at hL ⊢
  have ha := (Below.refl w.heap.size w).alloc (Nat.le_refl _) (Obj.cells #[.slice none 0 0, .int .i64 0, .int .i64 0] 29)
  have G0 := C3.new w (.slice none 0 0) (.int .i64 0) (.int .i64 0) 29
  go_enter Tryd.func8, Tryd.ntmps8
  go_wp2
  have T0 : T2 (w.heap.size + 1) s 0 ((w.alloc (Obj.cells #[.slice none 0 0, .int .i64 0, .int .i64 0] 29)).alloc (Obj.cells #[.string s, .int .i64 0] 57)) := ⟨by simp, by simp, by simp [go_sem], by simp, by omega, hs⟩
  have hA1 := (Below.refl (w.alloc (Obj.cells #[.slice none 0 0, .int .i64 0, .int .i64 0] 29)).heap.size (w.alloc (Obj.cells #[.slice none 0 0, .int .i64 0, .int .i64 0] 29))).alloc (Nat.le_refl _) (Obj.cells #[.string s, .int .i64 0] 57)
  have G1 := G0.below hA1
  have hb0 := btr ha hA1
  generalize (w.alloc (Obj.cells #[.slice none 0 0, .int .i64 0, .int .i64 0] 29)).alloc (Obj.cells #[.string s, .int .i64 0] 57) = W0 at *
  clear ha G0 hA1
  obtain ⟨b, hbe⟩ : ∃ b, w.heap.size + 1 = b := ⟨_, rfl⟩
  rw [hbe] at T0 ⊢
  have hrb : w.heap.size < b := by omega
  have nb : w.heap.size ≠ b := by omega
  have nb' : b ≠ w.heap.size := by omega
  clear hbe
  go_loopw [4] (fun v wr => ∃ (k f : Nat) (acc : List (Rl × Value × Value)), T2 b s k wr ∧ C3 w.heap.size (.slice none 0 0) (.int .i64 0) (.int .i64 0) wr ∧ Below w.heap.size w wr ∧ wr.ownsRow (b + 1) 35 3 v acc.length (cellsR acc) ∧ (∀ p ∈ acc, Own wr (b + 1) p.2.1 p.1.seq ∧ Own wr (b + 1) p.2.2 p.1.exp) ∧ acc.length + (rest s k).length ≤ F ∧ (blankP (rest s k)).length ≤ f ∧ Hid (parseP F [] (blankP (rest s 0)) = parseP f (acc.map (·.1)) (blankP (rest s k)))) (fun _ wr => (rest s (ix2 b wr)).length)
  case atStart => exact ⟨0, F, [], T0, G1, hb0, World.ownsRow_nil _ _ _ _, (fun p hp => by cases hp), (by simp; omega), (by rw [← hF]; exact blankP_len _), Lib.hid rfl⟩
  case round =>
    obtain ⟨k, f, acc, hst, hG, hbw, hrow, hro, hlen, hf, hp⟩ := hrel
    have hix := hst.ix
    obtain ⟨RA', rc, rfl⟩ := row_slice3 hrow
    have BL := Lib.hid (blank_rf hst)
    have hbs : w.heap.size ≤ b := by omega
    go_wp2_with (first
      | (go_at_call 21; (with_reducible refine BL.out.mono ?_); rintro e w1 ⟨rfl, k0, hk0, hs1, hb1⟩))
    rw [← hk0] at hp hf
    have hlk := blankP_len (rest s k)
    rw [← hk0] at hlk
    have z1 := fun n => below_drewN w1 n
    have d0 := hs1.c0
    have d1 := hs1.c1
    have hle1 := hs1.le
    have hG1 := hG.but hb1 nb
    have hrow1 := own_but hrow hb1 (Nat.lt_succ_self _)
    have hro1 : ∀ p ∈ acc, Own w1 (b + 1) p.2.1 p.1.seq ∧ Own w1 (b + 1) p.2.2 p.1.exp := fun p hp => ⟨(hro p hp).1.but hb1 (Nat.lt_succ_self _), (hro p hp).2.but hb1 (Nat.lt_succ_self _)⟩
    have hbw1 := hbw.trans (hb1.below hbs hbw.size)
    clear hst hG hbw hrow hro hb1 BL
    by_cases hke : k0 = s.size
    · have i1 : ((k0 : Int) == (s.size : Int)) = true := by rw [beq_iff_eq]; omega
      rw [rest_end (s := s) (i := k0) (by omega), parseP_nil, List.length_map] at hp
      replace hke := Lib.hid hke
      go_quiet (fail)
      have hs2 := hs1.below (z1 nq)
      have hG2 := hG1.below (z1 nq)
      have hrow2 := own_below hrow1 (z1 nq)
      have hro2 : ∀ p ∈ acc, Own (w1.drewN nq) (b + 1) p.2.1 p.1.seq ∧ Own (w1.drewN nq) (b + 1) p.2.2 p.1.exp := fun p hp => ⟨(hro1 p hp).1.below (z1 nq), (hro1 p hp).2.below (z1 nq)⟩
      have hbw2 := btr hbw1 (z1 nq)
      generalize w1.drewN nq = W2 at *
      clear hs1 hG1 hrow1 hro1 hbw1 z1 d0 d1
      obtain ⟨g0, g1, g2, gf⟩ := hG2.cells
      by_cases h40 : 40 < acc.length
      · rw [if_pos h40] at hp
        have h40' : 40 < (acc.length : Int) := by omega
        clear h40
        go_wp2
        exact bodyPost_ret (v := .agg #[.slice none 0 0, .int .i64 0, .int .i64 65]) (by simp [results, Tryd.results8, go_sem, *]) rfl ⟨by rw [hp.out]; rfl, below3 hbw2 (Nat.le_refl _) _ _ _⟩
      · rw [if_neg h40] at hp
        have h40' : ¬ 40 < (acc.length : Int) := by omega
        clear h40
        go_wp2
        refine bodyPost_ret (v := .agg #[.slice RA' acc.length rc, .int .i64 0, .int .i64 0]) (by simp [results, Tryd.results8, go_sem, *]) rfl ⟨?_, below3 hbw2 (Nat.le_refl _) _ _ _⟩
        rw [hp.out]
        exact ⟨RA', rc, acc, by rw [List.length_map], rfl, by rw [List.length_map]; exact (fin_row hrow2 hro2 (by omega) _ _ _).base (by omega)⟩
    · have hk : k0 < s.size := by omega
      have i1 : ((k0 : Int) == (s.size : Int)) = false := by rw [beq_eq_false_iff_ne]; omega
      have hne : rest s k0 ≠ [] := by rw [rest_step hk]; simp
      obtain ⟨f, rfl⟩ : ∃ f', f = f' + 1 := ⟨f - 1, by have : 0 < (rest s k0).length := List.length_pos_iff.2 hne; omega⟩
      have hall : acc.length ≤ 100000 := by omega
      clear hke
      go_quiet (fail)
      have hs2 := hs1.below (z1 nq)
      have hG2 := hG1.below (z1 nq)
      have hrow2 := own_below hrow1 (z1 nq)
      have hro2 : ∀ p ∈ acc, Own (w1.drewN nq) (b + 1) p.2.1 p.1.seq ∧ Own (w1.drewN nq) (b + 1) p.2.2 p.1.exp := fun p hp => ⟨(hro1 p hp).1.below (z1 nq), (hro1 p hp).2.below (z1 nq)⟩
      have hbw2 := btr hbw1 (z1 nq)
      generalize w1.drewN nq = W2 at *
      clear hs1 hG1 hrow1 hro1 hbw1 z1 d0 d1
      have d0 := hs2.c0
      have d1 := hs2.c1
      have d1f := hs2.f1
      obtain ⟨R, hR⟩ : ∃ R, relP (rest s k0) = R := ⟨_, rfl⟩
      obtain ⟨r1, M1⟩ := R
      have RL := rel_rf hs2 hk
      rw [hR] at RL
      by_cases h0 : acc.length = 0
      · have ef : ((acc.length : Int) == 0) = true := by rw [h0]; rfl
        have hem : (acc.map (·.1)).isEmpty = true := by rw [List.eq_nil_of_length_eq_zero h0]; rfl
        replace h0 := Lib.hid h0
        by_cases hz : r1 = 0
        · have hru : ruleP true (rest s k0) = (rest s k0, none) := by unfold ruleP; rw [hR, if_pos (.inl hz)]
          subst hz
          replace RL : Hid (Calls Tryd.prog 22 #[pt b] W2 fun e w' => e = .returned (.int .i64 0) ∧ ∃ k, rest s k = M1 ∧ T2 b s k w' ∧ But b W2 w') := RL
          rw [parseP_none hne (by rw [hem]; exact hru)] at hp
          go_wp2_with (first
            | (go_at_call 22; (with_reducible refine RL.out.mono ?_); rintro e w3 ⟨rfl, k1, hk1, hs3, hb3⟩; have G3 := hG2.but hb3 nb; have n31 := Nat.ne_of_lt hs3.lt; have n31' := Nat.ne_of_gt hs3.lt; have l31 := hs3.lt; have l32 := G3.lt; have n32 := Nat.ne_of_lt G3.lt; have n32' := Nat.ne_of_gt G3.lt; have d30 := hs3.c0; have d31 := hs3.c1; have d3f := hs3.f1; have g30 := G3.k0; have g31 := G3.k1; have g32 := G3.k2; have g3f := G3.fr; have ha3 := (Below.refl w3.heap.size w3).alloc (Nat.le_refl _) (Obj.cells #[.int .i64 0, .slice none 0 0, .slice none 0 0] 35); have hs3' := hs3.below ha3; have X3 := C3.new w3 (.int .i64 0) (.slice none 0 0) (.slice none 0 0) 35; have G3' := G3.below ha3))
          have hbw3 := hbw2.trans (hb3.below hbs hbw2.size)
          exact bodyPost_ret (v := .agg #[.slice none 0 0, .int .i64 (k0 : Nat), .int .i64 10]) (by simp [results, Tryd.results8, go_sem, *]) rfl ⟨by rw [hp.out]; show _ = _; rw [pos_rest hle1 rfl], below3 hbw3 (Nat.le_refl _) _ _ _⟩

        have hz0 : r1 ≠ 0 := hz
        by_cases hz : r1 = 1
        · rcases hq2 : seqP (blankP M1) [] with ⟨M2, _ | q⟩
          · have hru : ruleP true (rest s k0) = (M2, none) := by unfold ruleP; rw [hR, if_neg (by subst hz; simp)]; simp only [hq2]
            subst hz
            replace RL : Hid (Calls Tryd.prog 22 #[pt b] W2 fun e w' => e = .returned (.int .i64 1) ∧ ∃ k, rest s k = M1 ∧ T2 b s k w' ∧ But b W2 w') := RL
            rw [parseP_none hne (by rw [hem]; exact hru)] at hp
            go_wp2_with (first
              | (go_at_call 22; (with_reducible refine RL.out.mono ?_); rintro e w3 ⟨rfl, k1, hk1, hs3, hb3⟩; have G3 := hG2.but hb3 nb; have n31 := Nat.ne_of_lt hs3.lt; have n31' := Nat.ne_of_gt hs3.lt; have l31 := hs3.lt; have l32 := G3.lt; have n32 := Nat.ne_of_lt G3.lt; have n32' := Nat.ne_of_gt G3.lt; have d30 := hs3.c0; have d31 := hs3.c1; have d3f := hs3.f1; have g30 := G3.k0; have g31 := G3.k1; have g32 := G3.k2; have g3f := G3.fr; have ha3 := (Below.refl w3.heap.size w3).alloc (Nat.le_refl _) (Obj.cells #[.int .i64 1, .slice none 0 0, .slice none 0 0] 35); have hs3' := hs3.below ha3; have X3 := C3.new w3 (.int .i64 1) (.slice none 0 0) (.slice none 0 0) 35; have G3' := G3.below ha3)
              | (go_at_call 23; (with_reducible refine (seq_rf hs3').mono ?_); rintro e w4 ⟨sA, sn, sc, k2, rfl, hk2, hs4, hb4, ho4⟩; rw [hk1, hq2] at hk2 ho4; rw [hk1, hq2]; have G4 := G3'.but hb4 nb; have X4 := X3.but hb4 n31'; have d40 := hs4.c0; have d41 := hs4.c1; have d4f := hs4.f1; have g40 := G4.k0; have g41 := G4.k1; have g42 := G4.k2; have g4f := G4.fr; have x40 := X4.k0; have x41 := X4.k1; have x42 := X4.k2; have x4f := X4.fr; have l41 := hs4.lt; have l42 := G4.lt; have l43 := X4.lt))
            have hbw3 := hbw2.trans (hb3.below hbs hbw2.size)
            have hbw3' := hbw3.alloc hbw3.size (Obj.cells #[.int .i64 1, .slice none 0 0, .slice none 0 0] 35)
            have hbw4 := hbw3'.trans (hb4.below hbs hbw3'.size)
            exact bodyPost_ret (v := .agg #[.slice none 0 0, .int .i64 (k2 : Nat), .int .i64 10]) (by simp [results, Tryd.results8, go_sem, *]) rfl ⟨by rw [hp.out]; show _ = _; rw [pos_rest hs4.le hk2], below3 hbw4 (Nat.le_refl _) _ _ _⟩

          · have hru : ruleP true (rest s k0) = (blankP M2, some ⟨1, q, []⟩) := by unfold ruleP; rw [hR, if_neg (by subst hz; simp)]; simp only [hq2]; rw [if_pos hz]
            subst hz
            replace RL : Hid (Calls Tryd.prog 22 #[pt b] W2 fun e w' => e = .returned (.int .i64 1) ∧ ∃ k, rest s k = M1 ∧ T2 b s k w' ∧ But b W2 w') := RL
            rw [parseP_some hne (by rw [hem]; exact hru)] at hp
            go_wp2_with (first
              | (go_at_call 22; (with_reducible refine RL.out.mono ?_); rintro e w3 ⟨rfl, k1, hk1, hs3, hb3⟩; have G3 := hG2.but hb3 nb; have n31 := Nat.ne_of_lt hs3.lt; have n31' := Nat.ne_of_gt hs3.lt; have l31 := hs3.lt; have l32 := G3.lt; have n32 := Nat.ne_of_lt G3.lt; have n32' := Nat.ne_of_gt G3.lt; have d30 := hs3.c0; have d31 := hs3.c1; have d3f := hs3.f1; have g30 := G3.k0; have g31 := G3.k1; have g32 := G3.k2; have g3f := G3.fr; have ha3 := (Below.refl w3.heap.size w3).alloc (Nat.le_refl _) (Obj.cells #[.int .i64 1, .slice none 0 0, .slice none 0 0] 35); have hs3' := hs3.below ha3; have X3 := C3.new w3 (.int .i64 1) (.slice none 0 0) (.slice none 0 0) 35; have G3' := G3.below ha3)
              | (go_at_call 23; (with_reducible refine (seq_rf hs3').mono ?_); rintro e w4 ⟨sA, sn, sc, k2, rfl, hk2, hs4, hb4, ho4⟩; rw [hk1, hq2] at hk2 ho4; rw [hk1, hq2]; have G4 := G3'.but hb4 nb; have X4 := X3.but hb4 n31'; have d40 := hs4.c0; have d41 := hs4.c1; have d4f := hs4.f1; have g40 := G4.k0; have g41 := G4.k1; have g42 := G4.k2; have g4f := G4.fr; have x40 := X4.k0; have x41 := X4.k1; have x42 := X4.k2; have x4f := X4.fr; have l41 := hs4.lt; have l42 := G4.lt; have l43 := X4.lt)
              | (go_at_call 21; (with_reducible refine (blank_rf (hs4.not n31' 1 (.slice sA sn sc))).mono ?_); rintro e w5 ⟨rfl, k3, hk3, hs5, hb5⟩))
            have hbw3 := hbw2.trans (hb3.below hbs hbw2.size)
            rw [hk2] at hk3
            have q4A := ((But.of (b := b) ha3).trans hb4).farB (Nat.le_refl w3.heap.size) 1 (.slice sA sn sc)
            have q5 := q4A.trans hb5
            have X5 := (X4.set1 (.slice sA sn sc)).but hb5 n31'
            have hz3 : (w3.alloc (Obj.cells #[.int .i64 1, .slice none 0 0, .slice none 0 0] 35)).heap.size = w3.heap.size + 1 := by simp
            rw [hz3] at ho4
            have hb1' : b + 1 ≤ w3.heap.size := hs3.lt
            have oS := ((ho4 q rfl).far (show w3.heap.size < w3.heap.size + 1 by omega) 1 (.slice sA sn sc)).but hb5 (by omega)
            have row3 := own_but hrow2 hb3 (Nat.lt_succ_self _)
            have ro3 : ∀ p ∈ acc, Own w3 (b + 1) p.2.1 p.1.seq ∧ Own w3 (b + 1) p.2.2 p.1.exp := fun p hp => ⟨(hro2 p hp).1.but hb3 (Nat.lt_succ_self _), (hro2 p hp).2.but hb3 (Nat.lt_succ_self _)⟩
            clear hs4 G4 X4 d40 d41 d4f g40 g41 g42 g4f x40 x41 x42 x4f l41 l42 l43 q4A hb4 hb5 hrow2 hro2 ho4
            have d50 := hs5.c0
            have d51 := hs5.c1
            have hle5 := hs5.le
            have y0 := fun n => below_drewN w5 n
            have hshort := ruleP_len hru
            go_quiet (fail)
            have hs6 := hs5.below (y0 nq)
            have q6 := q5.on (y0 nq)
            have X6 := X5.below (y0 nq)
            have oS6 := oS.below (y0 nq)
            generalize w5.drewN nq = W6 at *
            clear hs5 q5 X5 oS y0 d50 d51
            have d60 := hs6.c0
            have d61 := hs6.c1
            have d6f := hs6.f1
            have x60 := X6.k0
            have x61 := X6.k1
            have x62 := X6.k2
            have x6f := X6.fr
            have l61 := hs6.lt
            have l62 := X6.lt
            have qA := q6
            have rowA := own_but row3 qA (Nat.lt_succ_self _)
            have hkfM : blankP (rest s k3) = blankP M2 := by rw [hk3, blankP_idem]
            have hlt : (rest s k3).length < (rest s k0).length := by rw [hk3]; exact hshort
            go_wp2_with (first
              | (at_builtin; refine wpList_append_own _ rfl _ _ 27 rfl (b + 1) 35 j0 (.agg #[.int .i64 0, .slice none 0 0, .slice none 0 0]) 3 56 Tryd.underlying27 hi' hy0 hy1 hy2 rfl (by decide) _ _ _ rfl (rowA.alloc _) ⟨W6.heap.size, 0, none⟩ 1 1 [.int .i64 1, .slice sA sn sc, .slice none 0 0] rfl rfl (one_rule _ _ _ _ _) (cells_rule _ _ _ _ _ _ _) ?c3 ?c4 ?c5 ?_))
            case c3 => first | (unfold maxLen; omega) | omega
            case c4 => omega
            case c5 => first | omega | (simp; omega)
            intro v' w9 hown' hgrow _
            have hsA := hs6
            have hzA : b + 1 ≤ (W6).heap.size := hsA.lt
            have haA := (Below.refl (W6).heap.size (W6)).alloc (Nat.le_refl _) (Obj.cells #[.int .i64 1, .slice sA sn sc, Value.slice none 0 0] 35)
            have hB9 : Below (b + 1) (W6) w9 := (haA.mono hzA).grown hgrow (by simp; omega) (fun j hj => by have := (rowA.lt j hj).1; omega)
            have hs9 := hsA.upto hB9 (Nat.lt_succ_self _)
            have hG9 := (G3.but qA nb).upto hB9 (by omega)
            have hbw9 := (hbw3.trans (qA.below hbs hbw3.size)).trans (hB9.mono (by omega))
            have kS := (((oS6.base (B' := b + 1) (by omega))).below haA).keep (rowA.alloc _) rule5_ne_int hgrow
            have kE : Own w9 (b + 1) (Value.slice none 0 0) (⟨1, q, []⟩ : Rl).exp := (((Own.nil _ _) : Own (W6) (b + 1) (Value.slice none 0 0) (⟨1, q, []⟩ : Rl).exp).below haA).keep (rowA.alloc _) rule5_ne_int hgrow
            have hro9 : ∀ p ∈ acc ++ [((⟨1, q, []⟩ : Rl), Value.slice sA sn sc, Value.slice none 0 0)], Own w9 (b + 1) p.2.1 p.1.seq ∧ Own w9 (b + 1) p.2.2 p.1.exp := fun p hp => by
              rcases List.mem_append.1 hp with hp | hp
              · exact ⟨((((ro3 p hp).1.but qA (Nat.lt_succ_self _)).below haA).keep (rowA.alloc _) rule5_ne_int hgrow), ((((ro3 p hp).2.but qA (Nat.lt_succ_self _)).below haA).keep (rowA.alloc _) rule5_ne_int hgrow)⟩
              · rw [List.mem_singleton] at hp
                subst hp
                exact ⟨kS, kE⟩
            clear hgrow
            go_wp2
            refine ⟨⟨k3, f, acc ++ [((⟨1, q, []⟩ : Rl), Value.slice sA sn sc, Value.slice none 0 0)], hs9, hG9, hbw9, ?_, hro9, ?_, ?_, ?_⟩, ?_⟩
            · rw [cellsR_snoc]
              simpa using hown'
            · simp
              omega
            · rw [hkfM]
              omega
            · exact Lib.hid (by rw [hp.out, List.map_append, hkfM]; rfl)
            · rw [hs9.ix, hix]
              omega

        have hz1 : r1 ≠ 1 := hz
        have hru : ruleP true (rest s k0) = (rest s k0, none) := by unfold ruleP; rw [hR, if_pos (.inr ⟨rfl, hz1⟩)]
        replace RL := Lib.hid RL
        have e0 : ((r1 : Int) == 0) = false := by rw [beq_eq_false_iff_ne]; omega
        have e1 : ((r1 : Int) == 1) = false := by rw [beq_eq_false_iff_ne]; omega
        have e1n : ((r1 : Int) != 1) = true := by rw [bne_iff_ne]; omega
        rw [parseP_none hne (by rw [hem]; exact hru)] at hp
        go_wp2_with (first
          | (go_at_call 22; (with_reducible refine RL.out.mono ?_); rintro e w3 ⟨rfl, k1, hk1, hs3, hb3⟩; have G3 := hG2.but hb3 nb; have n31 := Nat.ne_of_lt hs3.lt; have n31' := Nat.ne_of_gt hs3.lt; have l31 := hs3.lt; have l32 := G3.lt; have n32 := Nat.ne_of_lt G3.lt; have n32' := Nat.ne_of_gt G3.lt; have d30 := hs3.c0; have d31 := hs3.c1; have d3f := hs3.f1; have g30 := G3.k0; have g31 := G3.k1; have g32 := G3.k2; have g3f := G3.fr; have ha3 := (Below.refl w3.heap.size w3).alloc (Nat.le_refl _) (Obj.cells #[.int .i64 (r1 : Nat), .slice none 0 0, .slice none 0 0] 35); have hs3' := hs3.below ha3; have X3 := C3.new w3 (.int .i64 (r1 : Nat)) (.slice none 0 0) (.slice none 0 0) 35; have G3' := G3.below ha3))
        have hbw3 := hbw2.trans (hb3.below hbs hbw2.size)
        exact bodyPost_ret (v := .agg #[.slice none 0 0, .int .i64 (k0 : Nat), .int .i64 10]) (by simp [results, Tryd.results8, go_sem, *]) rfl ⟨by rw [hp.out]; show _ = _; rw [pos_rest hle1 rfl], below3 hbw3 (Nat.le_refl _) _ _ _⟩

      · have ef : ((acc.length : Int) == 0) = false := by rw [beq_eq_false_iff_ne]; omega
        have hem : (acc.map (·.1)).isEmpty = false := by
          cases acc with
          | nil => exact absurd rfl h0
          | cons a l => rfl
        clear h0
        by_cases hz : r1 = 0
        · have hru : ruleP false (rest s k0) = (rest s k0, none) := by unfold ruleP; rw [hR, if_pos (.inl hz)]
          subst hz
          replace RL : Hid (Calls Tryd.prog 22 #[pt b] W2 fun e w' => e = .returned (.int .i64 0) ∧ ∃ k, rest s k = M1 ∧ T2 b s k w' ∧ But b W2 w') := RL
          rw [parseP_none hne (by rw [hem]; exact hru)] at hp
          go_wp2_with (first
            | (go_at_call 22; (with_reducible refine RL.out.mono ?_); rintro e w3 ⟨rfl, k1, hk1, hs3, hb3⟩; have G3 := hG2.but hb3 nb; have n31 := Nat.ne_of_lt hs3.lt; have n31' := Nat.ne_of_gt hs3.lt; have l31 := hs3.lt; have l32 := G3.lt; have n32 := Nat.ne_of_lt G3.lt; have n32' := Nat.ne_of_gt G3.lt; have d30 := hs3.c0; have d31 := hs3.c1; have d3f := hs3.f1; have g30 := G3.k0; have g31 := G3.k1; have g32 := G3.k2; have g3f := G3.fr; have ha3 := (Below.refl w3.heap.size w3).alloc (Nat.le_refl _) (Obj.cells #[.int .i64 0, .slice none 0 0, .slice none 0 0] 35); have hs3' := hs3.below ha3; have X3 := C3.new w3 (.int .i64 0) (.slice none 0 0) (.slice none 0 0) 35; have G3' := G3.below ha3))
          have hbw3 := hbw2.trans (hb3.below hbs hbw2.size)
          exact bodyPost_ret (v := .agg #[.slice none 0 0, .int .i64 (k0 : Nat), .int .i64 10]) (by simp [results, Tryd.results8, go_sem, *]) rfl ⟨by rw [hp.out]; show _ = _; rw [pos_rest hle1 rfl], below3 hbw3 (Nat.le_refl _) _ _ _⟩

        have hz0 : r1 ≠ 0 := hz
        by_cases hz : r1 = 1
        · rcases hq2 : seqP (blankP M1) [] with ⟨M2, _ | q⟩
          · have hru : ruleP false (rest s k0) = (M2, none) := by unfold ruleP; rw [hR, if_neg (by subst hz; simp)]; simp only [hq2]
            subst hz
            replace RL : Hid (Calls Tryd.prog 22 #[pt b] W2 fun e w' => e = .returned (.int .i64 1) ∧ ∃ k, rest s k = M1 ∧ T2 b s k w' ∧ But b W2 w') := RL
            rw [parseP_none hne (by rw [hem]; exact hru)] at hp
            go_wp2_with (first
              | (go_at_call 22; (with_reducible refine RL.out.mono ?_); rintro e w3 ⟨rfl, k1, hk1, hs3, hb3⟩; have G3 := hG2.but hb3 nb; have n31 := Nat.ne_of_lt hs3.lt; have n31' := Nat.ne_of_gt hs3.lt; have l31 := hs3.lt; have l32 := G3.lt; have n32 := Nat.ne_of_lt G3.lt; have n32' := Nat.ne_of_gt G3.lt; have d30 := hs3.c0; have d31 := hs3.c1; have d3f := hs3.f1; have g30 := G3.k0; have g31 := G3.k1; have g32 := G3.k2; have g3f := G3.fr; have ha3 := (Below.refl w3.heap.size w3).alloc (Nat.le_refl _) (Obj.cells #[.int .i64 1, .slice none 0 0, .slice none 0 0] 35); have hs3' := hs3.below ha3; have X3 := C3.new w3 (.int .i64 1) (.slice none 0 0) (.slice none 0 0) 35; have G3' := G3.below ha3)
              | (go_at_call 23; (with_reducible refine (seq_rf hs3').mono ?_); rintro e w4 ⟨sA, sn, sc, k2, rfl, hk2, hs4, hb4, ho4⟩; rw [hk1, hq2] at hk2 ho4; rw [hk1, hq2]; have G4 := G3'.but hb4 nb; have X4 := X3.but hb4 n31'; have d40 := hs4.c0; have d41 := hs4.c1; have d4f := hs4.f1; have g40 := G4.k0; have g41 := G4.k1; have g42 := G4.k2; have g4f := G4.fr; have x40 := X4.k0; have x41 := X4.k1; have x42 := X4.k2; have x4f := X4.fr; have l41 := hs4.lt; have l42 := G4.lt; have l43 := X4.lt))
            have hbw3 := hbw2.trans (hb3.below hbs hbw2.size)
            have hbw3' := hbw3.alloc hbw3.size (Obj.cells #[.int .i64 1, .slice none 0 0, .slice none 0 0] 35)
            have hbw4 := hbw3'.trans (hb4.below hbs hbw3'.size)
            exact bodyPost_ret (v := .agg #[.slice none 0 0, .int .i64 (k2 : Nat), .int .i64 10]) (by simp [results, Tryd.results8, go_sem, *]) rfl ⟨by rw [hp.out]; show _ = _; rw [pos_rest hs4.le hk2], below3 hbw4 (Nat.le_refl _) _ _ _⟩

          · have hru : ruleP false (rest s k0) = (blankP M2, some ⟨1, q, []⟩) := by unfold ruleP; rw [hR, if_neg (by subst hz; simp)]; simp only [hq2]; rw [if_pos hz]
            subst hz
            replace RL : Hid (Calls Tryd.prog 22 #[pt b] W2 fun e w' => e = .returned (.int .i64 1) ∧ ∃ k, rest s k = M1 ∧ T2 b s k w' ∧ But b W2 w') := RL
            rw [parseP_some hne (by rw [hem]; exact hru)] at hp
            go_wp2_with (first
              | (go_at_call 22; (with_reducible refine RL.out.mono ?_); rintro e w3 ⟨rfl, k1, hk1, hs3, hb3⟩; have G3 := hG2.but hb3 nb; have n31 := Nat.ne_of_lt hs3.lt; have n31' := Nat.ne_of_gt hs3.lt; have l31 := hs3.lt; have l32 := G3.lt; have n32 := Nat.ne_of_lt G3.lt; have n32' := Nat.ne_of_gt G3.lt; have d30 := hs3.c0; have d31 := hs3.c1; have d3f := hs3.f1; have g30 := G3.k0; have g31 := G3.k1; have g32 := G3.k2; have g3f := G3.fr; have ha3 := (Below.refl w3.heap.size w3).alloc (Nat.le_refl _) (Obj.cells #[.int .i64 1, .slice none 0 0, .slice none 0 0] 35); have hs3' := hs3.below ha3; have X3 := C3.new w3 (.int .i64 1) (.slice none 0 0) (.slice none 0 0) 35; have G3' := G3.below ha3)
              | (go_at_call 23; (with_reducible refine (seq_rf hs3').mono ?_); rintro e w4 ⟨sA, sn, sc, k2, rfl, hk2, hs4, hb4, ho4⟩; rw [hk1, hq2] at hk2 ho4; rw [hk1, hq2]; have G4 := G3'.but hb4 nb; have X4 := X3.but hb4 n31'; have d40 := hs4.c0; have d41 := hs4.c1; have d4f := hs4.f1; have g40 := G4.k0; have g41 := G4.k1; have g42 := G4.k2; have g4f := G4.fr; have x40 := X4.k0; have x41 := X4.k1; have x42 := X4.k2; have x4f := X4.fr; have l41 := hs4.lt; have l42 := G4.lt; have l43 := X4.lt)
              | (go_at_call 21; (with_reducible refine (blank_rf (hs4.not n31' 1 (.slice sA sn sc))).mono ?_); rintro e w5 ⟨rfl, k3, hk3, hs5, hb5⟩))
            have hbw3 := hbw2.trans (hb3.below hbs hbw2.size)
            rw [hk2] at hk3
            have q4A := ((But.of (b := b) ha3).trans hb4).farB (Nat.le_refl w3.heap.size) 1 (.slice sA sn sc)
            have q5 := q4A.trans hb5
            have X5 := (X4.set1 (.slice sA sn sc)).but hb5 n31'
            have hz3 : (w3.alloc (Obj.cells #[.int .i64 1, .slice none 0 0, .slice none 0 0] 35)).heap.size = w3.heap.size + 1 := by simp
            rw [hz3] at ho4
            have hb1' : b + 1 ≤ w3.heap.size := hs3.lt
            have oS := ((ho4 q rfl).far (show w3.heap.size < w3.heap.size + 1 by omega) 1 (.slice sA sn sc)).but hb5 (by omega)
            have row3 := own_but hrow2 hb3 (Nat.lt_succ_self _)
            have ro3 : ∀ p ∈ acc, Own w3 (b + 1) p.2.1 p.1.seq ∧ Own w3 (b + 1) p.2.2 p.1.exp := fun p hp => ⟨(hro2 p hp).1.but hb3 (Nat.lt_succ_self _), (hro2 p hp).2.but hb3 (Nat.lt_succ_self _)⟩
            clear hs4 G4 X4 d40 d41 d4f g40 g41 g42 g4f x40 x41 x42 x4f l41 l42 l43 q4A hb4 hb5 hrow2 hro2 ho4
            have d50 := hs5.c0
            have d51 := hs5.c1
            have hle5 := hs5.le
            have y0 := fun n => below_drewN w5 n
            have hshort := ruleP_len hru
            go_quiet (fail)
            have hs6 := hs5.below (y0 nq)
            have q6 := q5.on (y0 nq)
            have X6 := X5.below (y0 nq)
            have oS6 := oS.below (y0 nq)
            generalize w5.drewN nq = W6 at *
            clear hs5 q5 X5 oS y0 d50 d51
            have d60 := hs6.c0
            have d61 := hs6.c1
            have d6f := hs6.f1
            have x60 := X6.k0
            have x61 := X6.k1
            have x62 := X6.k2
            have x6f := X6.fr
            have l61 := hs6.lt
            have l62 := X6.lt
            have qA := q6
            have rowA := own_but row3 qA (Nat.lt_succ_self _)
            have hkfM : blankP (rest s k3) = blankP M2 := by rw [hk3, blankP_idem]
            have hlt : (rest s k3).length < (rest s k0).length := by rw [hk3]; exact hshort
            go_wp2_with (first
              | (at_builtin; refine wpList_append_own _ rfl _ _ 27 rfl (b + 1) 35 j0 (.agg #[.int .i64 0, .slice none 0 0, .slice none 0 0]) 3 56 Tryd.underlying27 hi' hy0 hy1 hy2 rfl (by decide) _ _ _ rfl (rowA.alloc _) ⟨W6.heap.size, 0, none⟩ 1 1 [.int .i64 1, .slice sA sn sc, .slice none 0 0] rfl rfl (one_rule _ _ _ _ _) (cells_rule _ _ _ _ _ _ _) ?c3 ?c4 ?c5 ?_))
            case c3 => first | (unfold maxLen; omega) | omega
            case c4 => omega
            case c5 => first | omega | (simp; omega)
            intro v' w9 hown' hgrow _
            have hsA := hs6
            have hzA : b + 1 ≤ (W6).heap.size := hsA.lt
            have haA := (Below.refl (W6).heap.size (W6)).alloc (Nat.le_refl _) (Obj.cells #[.int .i64 1, .slice sA sn sc, Value.slice none 0 0] 35)
            have hB9 : Below (b + 1) (W6) w9 := (haA.mono hzA).grown hgrow (by simp; omega) (fun j hj => by have := (rowA.lt j hj).1; omega)
            have hs9 := hsA.upto hB9 (Nat.lt_succ_self _)
            have hG9 := (G3.but qA nb).upto hB9 (by omega)
            have hbw9 := (hbw3.trans (qA.below hbs hbw3.size)).trans (hB9.mono (by omega))
            have kS := (((oS6.base (B' := b + 1) (by omega))).below haA).keep (rowA.alloc _) rule5_ne_int hgrow
            have kE : Own w9 (b + 1) (Value.slice none 0 0) (⟨1, q, []⟩ : Rl).exp := (((Own.nil _ _) : Own (W6) (b + 1) (Value.slice none 0 0) (⟨1, q, []⟩ : Rl).exp).below haA).keep (rowA.alloc _) rule5_ne_int hgrow
            have hro9 : ∀ p ∈ acc ++ [((⟨1, q, []⟩ : Rl), Value.slice sA sn sc, Value.slice none 0 0)], Own w9 (b + 1) p.2.1 p.1.seq ∧ Own w9 (b + 1) p.2.2 p.1.exp := fun p hp => by
              rcases List.mem_append.1 hp with hp | hp
              · exact ⟨((((ro3 p hp).1.but qA (Nat.lt_succ_self _)).below haA).keep (rowA.alloc _) rule5_ne_int hgrow), ((((ro3 p hp).2.but qA (Nat.lt_succ_self _)).below haA).keep (rowA.alloc _) rule5_ne_int hgrow)⟩
              · rw [List.mem_singleton] at hp
                subst hp
                exact ⟨kS, kE⟩
            clear hgrow
            go_wp2
            refine ⟨⟨k3, f, acc ++ [((⟨1, q, []⟩ : Rl), Value.slice sA sn sc, Value.slice none 0 0)], hs9, hG9, hbw9, ?_, hro9, ?_, ?_, ?_⟩, ?_⟩
            · rw [cellsR_snoc]
              simpa using hown'
            · simp
              omega
            · rw [hkfM]
              omega
            · exact Lib.hid (by rw [hp.out, List.map_append, hkfM]; rfl)
            · rw [hs9.ix, hix]
              omega

        have hz1 : r1 ≠ 1 := hz
        rcases hq2 : seqP (blankP M1) [] with ⟨M2, _ | q⟩
        · have hru : ruleP false (rest s k0) = (M2, none) := by unfold ruleP; rw [hR, if_neg (by simp; exact hz0)]; simp only [hq2]
          replace RL := Lib.hid RL
          have e0 : ((r1 : Int) == 0) = false := by rw [beq_eq_false_iff_ne]; omega
          have e1 : ((r1 : Int) == 1) = false := by rw [beq_eq_false_iff_ne]; omega
          have e1n : ((r1 : Int) != 1) = true := by rw [bne_iff_ne]; omega
          rw [parseP_none hne (by rw [hem]; exact hru)] at hp
          go_wp2_with (first
            | (go_at_call 22; (with_reducible refine RL.out.mono ?_); rintro e w3 ⟨rfl, k1, hk1, hs3, hb3⟩; have G3 := hG2.but hb3 nb; have n31 := Nat.ne_of_lt hs3.lt; have n31' := Nat.ne_of_gt hs3.lt; have l31 := hs3.lt; have l32 := G3.lt; have n32 := Nat.ne_of_lt G3.lt; have n32' := Nat.ne_of_gt G3.lt; have d30 := hs3.c0; have d31 := hs3.c1; have d3f := hs3.f1; have g30 := G3.k0; have g31 := G3.k1; have g32 := G3.k2; have g3f := G3.fr; have ha3 := (Below.refl w3.heap.size w3).alloc (Nat.le_refl _) (Obj.cells #[.int .i64 (r1 : Nat), .slice none 0 0, .slice none 0 0] 35); have hs3' := hs3.below ha3; have X3 := C3.new w3 (.int .i64 (r1 : Nat)) (.slice none 0 0) (.slice none 0 0) 35; have G3' := G3.below ha3)
            | (go_at_call 23; (with_reducible refine (seq_rf hs3').mono ?_); rintro e w4 ⟨sA, sn, sc, k2, rfl, hk2, hs4, hb4, ho4⟩; rw [hk1, hq2] at hk2 ho4; rw [hk1, hq2]; have G4 := G3'.but hb4 nb; have X4 := X3.but hb4 n31'; have d40 := hs4.c0; have d41 := hs4.c1; have d4f := hs4.f1; have g40 := G4.k0; have g41 := G4.k1; have g42 := G4.k2; have g4f := G4.fr; have x40 := X4.k0; have x41 := X4.k1; have x42 := X4.k2; have x4f := X4.fr; have l41 := hs4.lt; have l42 := G4.lt; have l43 := X4.lt))
          have hbw3 := hbw2.trans (hb3.below hbs hbw2.size)
          have hbw3' := hbw3.alloc hbw3.size (Obj.cells #[.int .i64 (r1 : Nat), .slice none 0 0, .slice none 0 0] 35)
          have hbw4 := hbw3'.trans (hb4.below hbs hbw3'.size)
          exact bodyPost_ret (v := .agg #[.slice none 0 0, .int .i64 (k2 : Nat), .int .i64 10]) (by simp [results, Tryd.results8, go_sem, *]) rfl ⟨by rw [hp.out]; show _ = _; rw [pos_rest hs4.le hk2], below3 hbw4 (Nat.le_refl _) _ _ _⟩

        by_cases h47 : hd (blankP M2) = 47
        · rcases hM3 : blankP M2 with _ | ⟨c, M3⟩
          · rw [hM3] at h47; cases h47
          rw [hM3, hd_cons] at h47
          obtain rfl : c = 47 := by omega
          rcases hq5 : seqP (blankP M3) [] with ⟨M4, _ | q'⟩
          · have hru : ruleP false (rest s k0) = (M4, none) := by
              unfold ruleP
              rw [hR, if_neg (by simp; exact hz0)]
              simp only [hq2]
              rw [if_neg hz1]
              simp only [hM3, if_true, hq5]
            replace RL := Lib.hid RL
            have e0 : ((r1 : Int) == 0) = false := by rw [beq_eq_false_iff_ne]; omega
            have e1 : ((r1 : Int) == 1) = false := by rw [beq_eq_false_iff_ne]; omega
            have e1n : ((r1 : Int) != 1) = true := by rw [bne_iff_ne]; omega
            rw [parseP_none hne (by rw [hem]; exact hru)] at hp
            go_wp2_with (first
              | (go_at_call 22; (with_reducible refine RL.out.mono ?_); rintro e w3 ⟨rfl, k1, hk1, hs3, hb3⟩; have G3 := hG2.but hb3 nb; have n31 := Nat.ne_of_lt hs3.lt; have n31' := Nat.ne_of_gt hs3.lt; have l31 := hs3.lt; have l32 := G3.lt; have n32 := Nat.ne_of_lt G3.lt; have n32' := Nat.ne_of_gt G3.lt; have d30 := hs3.c0; have d31 := hs3.c1; have d3f := hs3.f1; have g30 := G3.k0; have g31 := G3.k1; have g32 := G3.k2; have g3f := G3.fr; have ha3 := (Below.refl w3.heap.size w3).alloc (Nat.le_refl _) (Obj.cells #[.int .i64 (r1 : Nat), .slice none 0 0, .slice none 0 0] 35); have hs3' := hs3.below ha3; have X3 := C3.new w3 (.int .i64 (r1 : Nat)) (.slice none 0 0) (.slice none 0 0) 35; have G3' := G3.below ha3)
              | (go_at_call 23; (with_reducible refine (seq_rf hs3').mono ?_); rintro e w4 ⟨sA, sn, sc, k2, rfl, hk2, hs4, hb4, ho4⟩; rw [hk1, hq2] at hk2 ho4; rw [hk1, hq2]; have G4 := G3'.but hb4 nb; have X4 := X3.but hb4 n31'; have d40 := hs4.c0; have d41 := hs4.c1; have d4f := hs4.f1; have g40 := G4.k0; have g41 := G4.k1; have g42 := G4.k2; have g4f := G4.fr; have x40 := X4.k0; have x41 := X4.k1; have x42 := X4.k2; have x4f := X4.fr; have l41 := hs4.lt; have l42 := G4.lt; have l43 := X4.lt)
              | (go_at_call 21; (with_reducible refine (blank_rf (hs4.not n31' 1 (.slice sA sn sc))).mono ?_); rintro e w5 ⟨rfl, k3, hk3, hs5, hb5⟩))
            have hbw3 := hbw2.trans (hb3.below hbs hbw2.size)
            rw [hk2] at hk3
            have q4A := ((But.of (b := b) ha3).trans hb4).farB (Nat.le_refl w3.heap.size) 1 (.slice sA sn sc)
            have q5 := q4A.trans hb5
            have X5 := (X4.set1 (.slice sA sn sc)).but hb5 n31'
            have hz3 : (w3.alloc (Obj.cells #[.int .i64 (r1 : Nat), .slice none 0 0, .slice none 0 0] 35)).heap.size = w3.heap.size + 1 := by simp
            rw [hz3] at ho4
            have hb1' : b + 1 ≤ w3.heap.size := hs3.lt
            have oS := ((ho4 q rfl).far (show w3.heap.size < w3.heap.size + 1 by omega) 1 (.slice sA sn sc)).but hb5 (by omega)
            have row3 := own_but hrow2 hb3 (Nat.lt_succ_self _)
            have ro3 : ∀ p ∈ acc, Own w3 (b + 1) p.2.1 p.1.seq ∧ Own w3 (b + 1) p.2.2 p.1.exp := fun p hp => ⟨(hro2 p hp).1.but hb3 (Nat.lt_succ_self _), (hro2 p hp).2.but hb3 (Nat.lt_succ_self _)⟩
            clear hs4 G4 X4 d40 d41 d4f g40 g41 g42 g4f x40 x41 x42 x4f l41 l42 l43 q4A hb4 hb5 hrow2 hro2 ho4
            have d50 := hs5.c0
            have d51 := hs5.c1
            have hle5 := hs5.le
            have y0 := fun n => below_drewN w5 n
            have hk3l : k3 < s.size := by
              apply Classical.byContradiction
              intro hn
              rw [hM3, rest_end (s := s) (i := k3) (by omega)] at hk3
              cases hk3
            have hB47 : (s[k3]'hk3l).toNat = 47 := (hd_byte hk3l (c := 47) (by decide)).1 (by rw [hk3, hM3]; rfl)
            have hk31 : rest s (k3 + 1) = M3 := by
              have h1 := rest_ascii hk3l (by omega)
              rw [hk3, hM3] at h1
              exact ((List.cons.inj h1).2).symm
            have j0' : 0 ≤ (k3 : Int) := by omega
            have j1 : (k3 : Int) < (s.size : Int) := by omega
            have j2 : (k3 : Int) + 1 ≤ 100000 := by omega
            go_quiet (fail)
            have hs6 := hs5.below (y0 nq)
            have q6 := q5.on (y0 nq)
            have X6 := X5.below (y0 nq)
            have oS6 := oS.below (y0 nq)
            generalize w5.drewN nq = W6 at *
            clear hs5 q5 X5 oS y0 d50 d51
            have d60 := hs6.c0
            have d61 := hs6.c1
            have d6f := hs6.f1
            have x60 := X6.k0
            have x61 := X6.k1
            have x62 := X6.k2
            have x6f := X6.fr
            have l61 := hs6.lt
            have l62 := X6.lt
            go_wp2_with (first
              | (go_at_call 23; (with_reducible refine (seq_rf (hs6.set (j := k3 + 1) (by omega) (by omega))).mono ?_); rintro e w8 ⟨tA, tn, tc, k8, rfl, hk8, hs8, hb8, ho8⟩; rw [hk31, hq5] at hk8 ho8; rw [hk31, hq5]; have X8 := (X6.but (But.set b 1 W6 (.int .i64 ((k3 : Int) + 1))) n31').but hb8 n31'; have d80 := hs8.c0; have d81 := hs8.c1; have d8f := hs8.f1; have x80 := X8.k0; have x81 := X8.k1; have x82 := X8.k2; have x8f := X8.fr; have l81 := hs8.lt; have l82 := X8.lt; have G8 := (((G3.but q6 nb).but (But.set b 1 W6 (.int .i64 ((k3 : Int) + 1))) nb).but hb8 nb); have g80 := G8.k0; have g81 := G8.k1; have g82 := G8.k2; have g8f := G8.fr; have l83 := G8.lt))
            have qB := ((q6.put 1 (.int .i64 ((k3 : Int) + 1))).trans hb8)
            have hbw8 := hbw3.trans (qB.below hbs hbw3.size)
            exact bodyPost_ret (v := .agg #[.slice none 0 0, .int .i64 (k8 : Nat), .int .i64 10]) (by simp [results, Tryd.results8, go_sem, *]) rfl ⟨by rw [hp.out]; show _ = _; rw [pos_rest hs8.le hk8], below3 hbw8 (Nat.le_refl _) _ _ _⟩

          · have hru : ruleP false (rest s k0) = (blankP M4, some ⟨r1, q, q'⟩) := by
              unfold ruleP
              rw [hR, if_neg (by simp; exact hz0)]
              simp only [hq2]
              rw [if_neg hz1]
              simp only [hM3, if_true, hq5]
            replace RL := Lib.hid RL
            have e0 : ((r1 : Int) == 0) = false := by rw [beq_eq_false_iff_ne]; omega
            have e1 : ((r1 : Int) == 1) = false := by rw [beq_eq_false_iff_ne]; omega
            have e1n : ((r1 : Int) != 1) = true := by rw [bne_iff_ne]; omega
            rw [parseP_some hne (by rw [hem]; exact hru)] at hp
            go_wp2_with (first
              | (go_at_call 22; (with_reducible refine RL.out.mono ?_); rintro e w3 ⟨rfl, k1, hk1, hs3, hb3⟩; have G3 := hG2.but hb3 nb; have n31 := Nat.ne_of_lt hs3.lt; have n31' := Nat.ne_of_gt hs3.lt; have l31 := hs3.lt; have l32 := G3.lt; have n32 := Nat.ne_of_lt G3.lt; have n32' := Nat.ne_of_gt G3.lt; have d30 := hs3.c0; have d31 := hs3.c1; have d3f := hs3.f1; have g30 := G3.k0; have g31 := G3.k1; have g32 := G3.k2; have g3f := G3.fr; have ha3 := (Below.refl w3.heap.size w3).alloc (Nat.le_refl _) (Obj.cells #[.int .i64 (r1 : Nat), .slice none 0 0, .slice none 0 0] 35); have hs3' := hs3.below ha3; have X3 := C3.new w3 (.int .i64 (r1 : Nat)) (.slice none 0 0) (.slice none 0 0) 35; have G3' := G3.below ha3)
              | (go_at_call 23; (with_reducible refine (seq_rf hs3').mono ?_); rintro e w4 ⟨sA, sn, sc, k2, rfl, hk2, hs4, hb4, ho4⟩; rw [hk1, hq2] at hk2 ho4; rw [hk1, hq2]; have G4 := G3'.but hb4 nb; have X4 := X3.but hb4 n31'; have d40 := hs4.c0; have d41 := hs4.c1; have d4f := hs4.f1; have g40 := G4.k0; have g41 := G4.k1; have g42 := G4.k2; have g4f := G4.fr; have x40 := X4.k0; have x41 := X4.k1; have x42 := X4.k2; have x4f := X4.fr; have l41 := hs4.lt; have l42 := G4.lt; have l43 := X4.lt)
              | (go_at_call 21; (with_reducible refine (blank_rf (hs4.not n31' 1 (.slice sA sn sc))).mono ?_); rintro e w5 ⟨rfl, k3, hk3, hs5, hb5⟩))
            have hbw3 := hbw2.trans (hb3.below hbs hbw2.size)
            rw [hk2] at hk3
            have q4A := ((But.of (b := b) ha3).trans hb4).farB (Nat.le_refl w3.heap.size) 1 (.slice sA sn sc)
            have q5 := q4A.trans hb5
            have X5 := (X4.set1 (.slice sA sn sc)).but hb5 n31'
            have hz3 : (w3.alloc (Obj.cells #[.int .i64 (r1 : Nat), .slice none 0 0, .slice none 0 0] 35)).heap.size = w3.heap.size + 1 := by simp
            rw [hz3] at ho4
            have hb1' : b + 1 ≤ w3.heap.size := hs3.lt
            have oS := ((ho4 q rfl).far (show w3.heap.size < w3.heap.size + 1 by omega) 1 (.slice sA sn sc)).but hb5 (by omega)
            have row3 := own_but hrow2 hb3 (Nat.lt_succ_self _)
            have ro3 : ∀ p ∈ acc, Own w3 (b + 1) p.2.1 p.1.seq ∧ Own w3 (b + 1) p.2.2 p.1.exp := fun p hp => ⟨(hro2 p hp).1.but hb3 (Nat.lt_succ_self _), (hro2 p hp).2.but hb3 (Nat.lt_succ_self _)⟩
            clear hs4 G4 X4 d40 d41 d4f g40 g41 g42 g4f x40 x41 x42 x4f l41 l42 l43 q4A hb4 hb5 hrow2 hro2 ho4
            have d50 := hs5.c0
            have d51 := hs5.c1
            have hle5 := hs5.le
            have y0 := fun n => below_drewN w5 n
            have hk3l : k3 < s.size := by
              apply Classical.byContradiction
              intro hn
              rw [hM3, rest_end (s := s) (i := k3) (by omega)] at hk3
              cases hk3
            have hB47 : (s[k3]'hk3l).toNat = 47 := (hd_byte hk3l (c := 47) (by decide)).1 (by rw [hk3, hM3]; rfl)
            have hk31 : rest s (k3 + 1) = M3 := by
              have h1 := rest_ascii hk3l (by omega)
              rw [hk3, hM3] at h1
              exact ((List.cons.inj h1).2).symm
            have j0' : 0 ≤ (k3 : Int) := by omega
            have j1 : (k3 : Int) < (s.size : Int) := by omega
            have j2 : (k3 : Int) + 1 ≤ 100000 := by omega
            go_quiet (fail)
            have hs6 := hs5.below (y0 nq)
            have q6 := q5.on (y0 nq)
            have X6 := X5.below (y0 nq)
            have oS6 := oS.below (y0 nq)
            generalize w5.drewN nq = W6 at *
            clear hs5 q5 X5 oS y0 d50 d51
            have d60 := hs6.c0
            have d61 := hs6.c1
            have d6f := hs6.f1
            have x60 := X6.k0
            have x61 := X6.k1
            have x62 := X6.k2
            have x6f := X6.fr
            have l61 := hs6.lt
            have l62 := X6.lt
            have hshort := rule_len5 hR hz0 hq2 hM3 hq5
            go_wp2_with (first
              | (go_at_call 23; (with_reducible refine (seq_rf (hs6.set (j := k3 + 1) (by omega) (by omega))).mono ?_); rintro e w8 ⟨tA, tn, tc, k8, rfl, hk8, hs8, hb8, ho8⟩; rw [hk31, hq5] at hk8 ho8; rw [hk31, hq5]; have X8 := (X6.but (But.set b 1 W6 (.int .i64 ((k3 : Int) + 1))) n31').but hb8 n31'; have d80 := hs8.c0; have d81 := hs8.c1; have d8f := hs8.f1; have x80 := X8.k0; have x81 := X8.k1; have x82 := X8.k2; have x8f := X8.fr; have l81 := hs8.lt; have l82 := X8.lt; have G8 := (((G3.but q6 nb).but (But.set b 1 W6 (.int .i64 ((k3 : Int) + 1))) nb).but hb8 nb); have g80 := G8.k0; have g81 := G8.k1; have g82 := G8.k2; have g8f := G8.fr; have l83 := G8.lt; have qA := (((q6.put 1 (.int .i64 ((k3 : Int) + 1))).trans hb8)).farB (Nat.le_refl w3.heap.size) 2 (.slice tA tn tc); have rowA := own_but row3 qA (Nat.lt_succ_self _))
              | (at_builtin; refine wpList_append_own _ rfl _ _ 27 rfl (b + 1) 35 j0 (.agg #[.int .i64 0, .slice none 0 0, .slice none 0 0]) 3 56 Tryd.underlying27 hi' hy0 hy1 hy2 rfl (by decide) _ _ _ rfl (rowA.alloc _) ⟨w8.heap.size, 0, none⟩ 1 1 [.int .i64 (r1 : Nat), .slice sA sn sc, .slice tA tn tc] rfl rfl (one_rule3 _ _ _ _ _ _ _) (cells_rule _ _ _ _ _ _ _) ?c3 ?c4 ?c5 ?_))
            case c3 => first | (unfold maxLen; omega) | omega
            case c4 => omega
            case c5 => first | omega | (simp; omega)
            have hkfM : blankP (rest s k8) = blankP M4 := by rw [hk8]
            have hlt : (rest s k8).length < (rest s k0).length := by rw [hk8]; exact hshort
            have hsh2 := ruleP_len hru
            have hz6 : (W6.setCell ⟨b, 1, none⟩ (.int .i64 ((k3 : Int) + 1))).heap.size = W6.heap.size := by simp
            rw [hz6] at ho8
            have oE8 := ((ho8 q' rfl).far (show w3.heap.size < W6.heap.size from l62) 2 (.slice tA tn tc)).base (B' := b + 1) (by omega)
            have oS8 := (((oS6.but (But.set b 1 W6 (.int .i64 ((k3 : Int) + 1))) (by omega)).but hb8 (by omega)).far (show w3.heap.size < w3.heap.size + 1 by omega) 2 (.slice tA tn tc)).base (B' := b + 1) (by omega)
            intro v' w9 hown' hgrow _
            have hsA := hs8.not n31' 2 (.slice tA tn tc)
            have hzA : b + 1 ≤ (w8.setCell ⟨w3.heap.size, 2, none⟩ (.slice tA tn tc)).heap.size := hsA.lt
            have haA := (Below.refl (w8.setCell ⟨w3.heap.size, 2, none⟩ (.slice tA tn tc)).heap.size (w8.setCell ⟨w3.heap.size, 2, none⟩ (.slice tA tn tc))).alloc (Nat.le_refl _) (Obj.cells #[.int .i64 (r1 : Nat), .slice sA sn sc, Value.slice tA tn tc] 35)
            have hB9 : Below (b + 1) (w8.setCell ⟨w3.heap.size, 2, none⟩ (.slice tA tn tc)) w9 := (haA.mono hzA).grown hgrow (by simp; omega) (fun j hj => by have := (rowA.lt j hj).1; omega)
            have hs9 := hsA.upto hB9 (Nat.lt_succ_self _)
            have hG9 := (G3.but qA nb).upto hB9 (by omega)
            have hbw9 := (hbw3.trans (qA.below hbs hbw3.size)).trans (hB9.mono (by omega))
            have kS := ((oS8).below haA).keep (rowA.alloc _) rule5_ne_int hgrow
            have kE : Own w9 (b + 1) (Value.slice tA tn tc) (⟨r1, q, q'⟩ : Rl).exp := ((oE8 : Own (w8.setCell ⟨w3.heap.size, 2, none⟩ (.slice tA tn tc)) (b + 1) (Value.slice tA tn tc) (⟨r1, q, q'⟩ : Rl).exp).below haA).keep (rowA.alloc _) rule5_ne_int hgrow
            have hro9 : ∀ p ∈ acc ++ [((⟨r1, q, q'⟩ : Rl), Value.slice sA sn sc, Value.slice tA tn tc)], Own w9 (b + 1) p.2.1 p.1.seq ∧ Own w9 (b + 1) p.2.2 p.1.exp := fun p hp => by
              rcases List.mem_append.1 hp with hp | hp
              · exact ⟨((((ro3 p hp).1.but qA (Nat.lt_succ_self _)).below haA).keep (rowA.alloc _) rule5_ne_int hgrow), ((((ro3 p hp).2.but qA (Nat.lt_succ_self _)).below haA).keep (rowA.alloc _) rule5_ne_int hgrow)⟩
              · rw [List.mem_singleton] at hp
                subst hp
                exact ⟨kS, kE⟩
            clear hgrow
            go_wp2
            refine ⟨⟨k8, f, acc ++ [((⟨r1, q, q'⟩ : Rl), Value.slice sA sn sc, Value.slice tA tn tc)], hs9, hG9, hbw9, ?_, hro9, ?_, ?_, ?_⟩, ?_⟩
            · rw [cellsR_snoc]
              simpa using hown'
            · simp
              omega
            · rw [hkfM]
              omega
            · exact Lib.hid (by rw [hp.out, List.map_append, hkfM]; rfl)
            · rw [hs9.ix, hix]
              omega

        have hru : ruleP false (rest s k0) = (blankP M2, some ⟨r1, q, []⟩) := by
          unfold ruleP
          rw [hR, if_neg (by simp; exact hz0)]
          simp only [hq2]
          rw [if_neg hz1]
          rcases hM : blankP M2 with _ | ⟨c, M3⟩
          · rfl
          · rw [hM] at h47
            have hc : c ≠ 47 := by intro hc; subst hc; exact h47 rfl
            simp only [if_neg hc]
        replace RL := Lib.hid RL
        have e0 : ((r1 : Int) == 0) = false := by rw [beq_eq_false_iff_ne]; omega
        have e1 : ((r1 : Int) == 1) = false := by rw [beq_eq_false_iff_ne]; omega
        have e1n : ((r1 : Int) != 1) = true := by rw [bne_iff_ne]; omega
        rw [parseP_some hne (by rw [hem]; exact hru)] at hp
        go_wp2_with (first
          | (go_at_call 22; (with_reducible refine RL.out.mono ?_); rintro e w3 ⟨rfl, k1, hk1, hs3, hb3⟩; have G3 := hG2.but hb3 nb; have n31 := Nat.ne_of_lt hs3.lt; have n31' := Nat.ne_of_gt hs3.lt; have l31 := hs3.lt; have l32 := G3.lt; have n32 := Nat.ne_of_lt G3.lt; have n32' := Nat.ne_of_gt G3.lt; have d30 := hs3.c0; have d31 := hs3.c1; have d3f := hs3.f1; have g30 := G3.k0; have g31 := G3.k1; have g32 := G3.k2; have g3f := G3.fr; have ha3 := (Below.refl w3.heap.size w3).alloc (Nat.le_refl _) (Obj.cells #[.int .i64 (r1 : Nat), .slice none 0 0, .slice none 0 0] 35); have hs3' := hs3.below ha3; have X3 := C3.new w3 (.int .i64 (r1 : Nat)) (.slice none 0 0) (.slice none 0 0) 35; have G3' := G3.below ha3)
          | (go_at_call 23; (with_reducible refine (seq_rf hs3').mono ?_); rintro e w4 ⟨sA, sn, sc, k2, rfl, hk2, hs4, hb4, ho4⟩; rw [hk1, hq2] at hk2 ho4; rw [hk1, hq2]; have G4 := G3'.but hb4 nb; have X4 := X3.but hb4 n31'; have d40 := hs4.c0; have d41 := hs4.c1; have d4f := hs4.f1; have g40 := G4.k0; have g41 := G4.k1; have g42 := G4.k2; have g4f := G4.fr; have x40 := X4.k0; have x41 := X4.k1; have x42 := X4.k2; have x4f := X4.fr; have l41 := hs4.lt; have l42 := G4.lt; have l43 := X4.lt)
          | (go_at_call 21; (with_reducible refine (blank_rf (hs4.not n31' 1 (.slice sA sn sc))).mono ?_); rintro e w5 ⟨rfl, k3, hk3, hs5, hb5⟩))
        have hbw3 := hbw2.trans (hb3.below hbs hbw2.size)
        rw [hk2] at hk3
        have q4A := ((But.of (b := b) ha3).trans hb4).farB (Nat.le_refl w3.heap.size) 1 (.slice sA sn sc)
        have q5 := q4A.trans hb5
        have X5 := (X4.set1 (.slice sA sn sc)).but hb5 n31'
        have hz3 : (w3.alloc (Obj.cells #[.int .i64 (r1 : Nat), .slice none 0 0, .slice none 0 0] 35)).heap.size = w3.heap.size + 1 := by simp
        rw [hz3] at ho4
        have hb1' : b + 1 ≤ w3.heap.size := hs3.lt
        have oS := ((ho4 q rfl).far (show w3.heap.size < w3.heap.size + 1 by omega) 1 (.slice sA sn sc)).but hb5 (by omega)
        have row3 := own_but hrow2 hb3 (Nat.lt_succ_self _)
        have ro3 : ∀ p ∈ acc, Own w3 (b + 1) p.2.1 p.1.seq ∧ Own w3 (b + 1) p.2.2 p.1.exp := fun p hp => ⟨(hro2 p hp).1.but hb3 (Nat.lt_succ_self _), (hro2 p hp).2.but hb3 (Nat.lt_succ_self _)⟩
        clear hs4 G4 X4 d40 d41 d4f g40 g41 g42 g4f x40 x41 x42 x4f l41 l42 l43 q4A hb4 hb5 hrow2 hro2 ho4
        have d50 := hs5.c0
        have d51 := hs5.c1
        have hle5 := hs5.le
        have y0 := fun n => below_drewN w5 n
        have hshort := ruleP_len hru
        by_cases hk3l : k3 < s.size
        · obtain ⟨B3, hB3⟩ : ∃ B3, (s[k3]'hk3l).toNat = B3 := ⟨_, rfl⟩
          have hB47 : ((B3 : Int) == 47) = false := by
            rw [beq_eq_false_iff_ne]
            intro hh
            apply h47
            rw [← hk3]
            exact (hd_byte hk3l (c := 47) (by decide)).2 (by omega)
          have j0' : 0 ≤ (k3 : Int) := by omega
          have j1 : (k3 : Int) < (s.size : Int) := by omega
          go_quiet (fail)
          have hs6 := hs5.below (y0 nq)
          have q6 := q5.on (y0 nq)
          have X6 := X5.below (y0 nq)
          have oS6 := oS.below (y0 nq)
          generalize w5.drewN nq = W6 at *
          clear hs5 q5 X5 oS y0 d50 d51
          have d60 := hs6.c0
          have d61 := hs6.c1
          have d6f := hs6.f1
          have x60 := X6.k0
          have x61 := X6.k1
          have x62 := X6.k2
          have x6f := X6.fr
          have l61 := hs6.lt
          have l62 := X6.lt
          have qA := q6
          have rowA := own_but row3 qA (Nat.lt_succ_self _)
          have hkfM : blankP (rest s k3) = blankP M2 := by rw [hk3, blankP_idem]
          have hlt : (rest s k3).length < (rest s k0).length := by rw [hk3]; exact hshort
          go_wp2_with (first
            | (at_builtin; refine wpList_append_own _ rfl _ _ 27 rfl (b + 1) 35 j0 (.agg #[.int .i64 0, .slice none 0 0, .slice none 0 0]) 3 56 Tryd.underlying27 hi' hy0 hy1 hy2 rfl (by decide) _ _ _ rfl (rowA.alloc _) ⟨W6.heap.size, 0, none⟩ 1 1 [.int .i64 (r1 : Nat), .slice sA sn sc, .slice none 0 0] rfl rfl (one_rule _ _ _ _ _) (cells_rule _ _ _ _ _ _ _) ?c3 ?c4 ?c5 ?_))
          case c3 => first | (unfold maxLen; omega) | omega
          case c4 => omega
          case c5 => first | omega | (simp; omega)
          intro v' w9 hown' hgrow _
          have hsA := hs6
          have hzA : b + 1 ≤ (W6).heap.size := hsA.lt
          have haA := (Below.refl (W6).heap.size (W6)).alloc (Nat.le_refl _) (Obj.cells #[.int .i64 (r1 : Nat), .slice sA sn sc, Value.slice none 0 0] 35)
          have hB9 : Below (b + 1) (W6) w9 := (haA.mono hzA).grown hgrow (by simp; omega) (fun j hj => by have := (rowA.lt j hj).1; omega)
          have hs9 := hsA.upto hB9 (Nat.lt_succ_self _)
          have hG9 := (G3.but qA nb).upto hB9 (by omega)
          have hbw9 := (hbw3.trans (qA.below hbs hbw3.size)).trans (hB9.mono (by omega))
          have kS := (((oS6.base (B' := b + 1) (by omega))).below haA).keep (rowA.alloc _) rule5_ne_int hgrow
          have kE : Own w9 (b + 1) (Value.slice none 0 0) (⟨r1, q, []⟩ : Rl).exp := (((Own.nil _ _) : Own (W6) (b + 1) (Value.slice none 0 0) (⟨r1, q, []⟩ : Rl).exp).below haA).keep (rowA.alloc _) rule5_ne_int hgrow
          have hro9 : ∀ p ∈ acc ++ [((⟨r1, q, []⟩ : Rl), Value.slice sA sn sc, Value.slice none 0 0)], Own w9 (b + 1) p.2.1 p.1.seq ∧ Own w9 (b + 1) p.2.2 p.1.exp := fun p hp => by
            rcases List.mem_append.1 hp with hp | hp
            · exact ⟨((((ro3 p hp).1.but qA (Nat.lt_succ_self _)).below haA).keep (rowA.alloc _) rule5_ne_int hgrow), ((((ro3 p hp).2.but qA (Nat.lt_succ_self _)).below haA).keep (rowA.alloc _) rule5_ne_int hgrow)⟩
            · rw [List.mem_singleton] at hp
              subst hp
              exact ⟨kS, kE⟩
          clear hgrow
          go_wp2
          refine ⟨⟨k3, f, acc ++ [((⟨r1, q, []⟩ : Rl), Value.slice sA sn sc, Value.slice none 0 0)], hs9, hG9, hbw9, ?_, hro9, ?_, ?_, ?_⟩, ?_⟩
          · rw [cellsR_snoc]
            simpa using hown'
          · simp
            omega
          · rw [hkfM]
            omega
          · exact Lib.hid (by rw [hp.out, List.map_append, hkfM]; rfl)
          · rw [hs9.ix, hix]
            omega

        · have j1 : ¬ (k3 : Int) < (s.size : Int) := by omega
          have j2 : decide ((k3 : Int) < (s.size : Int)) = false := by rw [decide_eq_false_iff_not]; exact j1
          go_quiet (fail)
          have hs6 := hs5.below (y0 nq)
          have q6 := q5.on (y0 nq)
          have X6 := X5.below (y0 nq)
          have oS6 := oS.below (y0 nq)
          generalize w5.drewN nq = W6 at *
          clear hs5 q5 X5 oS y0 d50 d51
          have d60 := hs6.c0
          have d61 := hs6.c1
          have d6f := hs6.f1
          have x60 := X6.k0
          have x61 := X6.k1
          have x62 := X6.k2
          have x6f := X6.fr
          have l61 := hs6.lt
          have l62 := X6.lt
          have qA := q6
          have rowA := own_but row3 qA (Nat.lt_succ_self _)
          have hkfM : blankP (rest s k3) = blankP M2 := by rw [hk3, blankP_idem]
          have hlt : (rest s k3).length < (rest s k0).length := by rw [hk3]; exact hshort
          go_wp2_with (first
            | (at_builtin; refine wpList_append_own _ rfl _ _ 27 rfl (b + 1) 35 j0 (.agg #[.int .i64 0, .slice none 0 0, .slice none 0 0]) 3 56 Tryd.underlying27 hi' hy0 hy1 hy2 rfl (by decide) _ _ _ rfl (rowA.alloc _) ⟨W6.heap.size, 0, none⟩ 1 1 [.int .i64 (r1 : Nat), .slice sA sn sc, .slice none 0 0] rfl rfl (one_rule _ _ _ _ _) (cells_rule _ _ _ _ _ _ _) ?c3 ?c4 ?c5 ?_))
          case c3 => first | (unfold maxLen; omega) | omega
          case c4 => omega
          case c5 => first | omega | (simp; omega)
          intro v' w9 hown' hgrow _
          have hsA := hs6
          have hzA : b + 1 ≤ (W6).heap.size := hsA.lt
          have haA := (Below.refl (W6).heap.size (W6)).alloc (Nat.le_refl _) (Obj.cells #[.int .i64 (r1 : Nat), .slice sA sn sc, Value.slice none 0 0] 35)
          have hB9 : Below (b + 1) (W6) w9 := (haA.mono hzA).grown hgrow (by simp; omega) (fun j hj => by have := (rowA.lt j hj).1; omega)
          have hs9 := hsA.upto hB9 (Nat.lt_succ_self _)
          have hG9 := (G3.but qA nb).upto hB9 (by omega)
          have hbw9 := (hbw3.trans (qA.below hbs hbw3.size)).trans (hB9.mono (by omega))
          have kS := (((oS6.base (B' := b + 1) (by omega))).below haA).keep (rowA.alloc _) rule5_ne_int hgrow
          have kE : Own w9 (b + 1) (Value.slice none 0 0) (⟨r1, q, []⟩ : Rl).exp := (((Own.nil _ _) : Own (W6) (b + 1) (Value.slice none 0 0) (⟨r1, q, []⟩ : Rl).exp).below haA).keep (rowA.alloc _) rule5_ne_int hgrow
          have hro9 : ∀ p ∈ acc ++ [((⟨r1, q, []⟩ : Rl), Value.slice sA sn sc, Value.slice none 0 0)], Own w9 (b + 1) p.2.1 p.1.seq ∧ Own w9 (b + 1) p.2.2 p.1.exp := fun p hp => by
            rcases List.mem_append.1 hp with hp | hp
            · exact ⟨((((ro3 p hp).1.but qA (Nat.lt_succ_self _)).below haA).keep (rowA.alloc _) rule5_ne_int hgrow), ((((ro3 p hp).2.but qA (Nat.lt_succ_self _)).below haA).keep (rowA.alloc _) rule5_ne_int hgrow)⟩
            · rw [List.mem_singleton] at hp
              subst hp
              exact ⟨kS, kE⟩
          clear hgrow
          go_wp2
          refine ⟨⟨k3, f, acc ++ [((⟨r1, q, []⟩ : Rl), Value.slice sA sn sc, Value.slice none 0 0)], hs9, hG9, hbw9, ?_, hro9, ?_, ?_, ?_⟩, ?_⟩
          · rw [cellsR_snoc]
            simpa using hown'
          · simp
            omega
          · rw [hkfM]
            omega
          · exact Lib.hid (by rw [hp.out, List.map_append, hkfM]; rfl)
          · rw [hs9.ix, hix]
            omega


end Go.Proofs.YtmpnblibbcocpaaDoor
