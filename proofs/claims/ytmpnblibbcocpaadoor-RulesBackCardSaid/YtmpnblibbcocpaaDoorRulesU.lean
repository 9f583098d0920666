
/- Rules held against each other by the program: rules.same, slices.EqualFunc. Conditions stand at each theorem. -/
import Derived.Test.YtmpnblibbcocpaaDoorRulesT
namespace Go.Proofs.YtmpnblibbcocpaaDoor
open Go.ChangeShapes Go.WideShapes Go.ChangeAt Go.RowKit Go.Lib
set_option linter.unusedVariables false

def eqR (x y : RlZ) : Bool := x.rel == y.rel && x.seq == y.seq && x.exp == y.exp
def eqRs : List RlZ → List RlZ → Bool
  | [], [] => true
  | x :: l, y :: m => eqR x y && eqRs l m
  | _, _ => false
theorem eqR_iff {x y : RlZ} : eqR x y = true ↔ x = y := by
  unfold eqR
  rw [Bool.and_eq_true, Bool.and_eq_true, beq_iff_eq, beq_iff_eq, beq_iff_eq]
  cases x
  cases y
  simp [and_assoc]
theorem eqRs_iff : ∀ {l m : List RlZ}, eqRs l m = true ↔ l = m
  | [], [] => by simp [eqRs]
  | [], y :: m => by simp [eqRs]
  | x :: l, [] => by simp [eqRs]
  | x :: l, y :: m => by
    unfold eqRs
    rw [Bool.and_eq_true, eqR_iff, eqRs_iff]
    simp

set_option maxHeartbeats 1000000 in
set_option maxRecDepth 100000 in
theorem same_rl (x y : RlZ) (s1 e1 s2 e2 : Value) (w : World) (a1 : Rd w s1 x.seq) (a2 : Rd w e1 x.exp) (b1 : Rd w s2 y.seq) (b2 : Rd w e2 y.exp) (n1 : x.seq.length ≤ 1000000) (n2 : x.exp.length ≤ 1000000) (n3 : y.seq.length ≤ 1000000) (n4 : y.exp.length ≤ 1000000) :
    Calls Tryd.prog 27 #[.agg #[.int .i64 x.rel, s1, e1], .agg #[.int .i64 y.rel, s2, e2]] w fun e w' => e = .returned (.bool (eqR x y)) ∧ Below w.heap.size w w' := by
  have Q1 : ∀ W, Below w.heap.size w W → Calls Tryd.prog 43 #[s1, s2] W fun e w' => e = .returned (.bool (x.seq == y.seq)) ∧ Below W.heap.size W w' := fun W hW => Equal_any s1 s2 _ _ W (a1.below hW) (b1.below hW) n1 n3
  have Q2 : ∀ W, Below w.heap.size w W → Calls Tryd.prog 43 #[e1, e2] W fun e w' => e = .returned (.bool (x.exp == y.exp)) ∧ Below W.heap.size W w' := fun W hW => Equal_any e1 e2 _ _ W (a2.below hW) (b2.below hW) n2 n4
  obtain ⟨A1, c1, rfl, _⟩ := a1
  obtain ⟨A2, c2, rfl, _⟩ := a2
  obtain ⟨A3, c3, rfl, _⟩ := b1
  obtain ⟨A4, c4, rfl, _⟩ := b2
  unfold eqR
  generalize (x.seq == y.seq) = p at *
  generalize (x.exp == y.exp) = q at *
  generalize x.seq.length = k1 at *
  generalize x.exp.length = k2 at *
  generalize y.seq.length = k3 at *
  generalize y.exp.length = k4 at *
  generalize x.rel = z1 at *
  generalize y.rel = z2 at *
  replace Q1 := Lib.hid Q1
  replace Q2 := Lib.hid Q2
  have hb0 := ((Below.refl w.heap.size w).alloc (Nat.le_refl _) (Obj.cells #[.int .i64 z1, .slice A1 k1 c1, .slice A2 k2 c2] 43)).alloc (by simp) (Obj.cells #[.int .i64 z2, .slice A3 k3 c3, .slice A4 k4 c4] 43)
  have hz0 := hb0.size
  by_cases hz : z1 = z2
  · subst hz
    have e : (z1 == z1) = true := beq_self_eq_true z1
    rw [e]
    cases p <;> cases q
    all_goals
      go_enter Tryd.func27, Tryd.ntmps27
      go_wp2_with (first
        | (go_at_call 43; (with_reducible refine (Q1.out _ hb0).mono ?_); rintro r w3 ⟨rfl, hb3⟩; have p2 := (hb3.cell (p := ⟨w.heap.size, 2, none⟩) (by simp; omega)); have r2 := (hb3.cell (p := ⟨w.heap.size + 1, 2, none⟩) (by simp)); have hbb := btr hb0 hb3)
        | (go_at_call 43; (with_reducible refine (Q2.out _ hbb).mono ?_); rintro r w4 ⟨rfl, hb4⟩))
      go_ret
      first | exact ⟨rfl, btr hbb hb4⟩ | exact ⟨rfl, hbb⟩
  · have e : (z1 == z2) = false := by rw [beq_eq_false_iff_ne]; exact hz
    rw [e]
    go_enter Tryd.func27, Tryd.ntmps27
    go_wp2
    go_ret
    exact ⟨rfl, hb0⟩
theorem eqRs_len : ∀ {l m : List RlZ}, l.length ≠ m.length → eqRs l m = false
  | l, m, h => by
    cases he : eqRs l m
    · rfl
    · exact absurd (congrArg List.length (eqRs_iff.1 he)) h
theorem eqRs_step {l m : List RlZ} {k : Nat} (h1 : k < l.length) (h2 : k < m.length) : eqRs (l.drop k) (m.drop k) = (eqR (l[k]'h1) (m[k]'h2) && eqRs (l.drop (k + 1)) (m.drop (k + 1))) := by
  rw [List.drop_eq_getElem_cons h1, List.drop_eq_getElem_cons h2]
  rfl
set_option maxHeartbeats 2000000 in
set_option maxRecDepth 100000 in
theorem EqF_any (va vb : Value) (l m : List RlZ) (w : World) (h1 : RRd w va l) (h2 : RRd w vb m) (hl : l.length ≤ 1000000) (hm : m.length ≤ 1000000) (hb1 : ∀ x ∈ l, x.seq.length ≤ 1000000 ∧ x.exp.length ≤ 1000000) (hb2 : ∀ x ∈ m, x.seq.length ≤ 1000000 ∧ x.exp.length ≤ 1000000) :
    Calls Tryd.prog 26 #[va, vb, .func (Fn.func 27) #[] #[]] w fun e w' => e = .returned (.bool (eqRs l m)) ∧ Below w.heap.size w w' := by
  obtain ⟨A, c, rfl, hc, k1⟩ := h1.ex
  obtain ⟨D, d, rfl, hd', k2⟩ := h2.ex
  clear h1 h2
  by_cases hlen : l.length = m.length
  rotate_left
  · rw [eqRs_len hlen]
    have e : ((l.length : Int) == (m.length : Int)) = false := by rw [beq_eq_false_iff_ne]; omega
    have e' : ((l.length : Int) != (m.length : Int)) = true := by rw [bne_iff_ne]; omega
    clear k1 k2
    generalize l.length = n1 at *
    generalize m.length = n2 at *
    go_enter Tryd.func26, Tryd.ntmps26
    go_wp2
    go_ret
    exact ⟨rfl, Below.refl _ _⟩
  obtain ⟨n, hn⟩ : ∃ n, l.length = n := ⟨_, rfl⟩
  have hn2 : m.length = n := by omega
  rw [hn] at k1 hl hc ⊢
  rw [hn2] at k2 hm hd' ⊢
  clear hlen
  go_enter Tryd.func26, Tryd.ntmps26
  go_wp2
  go_loopw [17] (fun i wr => ∃ k : Nat, i = .int .i64 k ∧ k ≤ n ∧ Below w.heap.size w wr ∧ Hid (eqRs l m = eqRs (l.drop k) (m.drop k))) (fun i _ => n - (RowKit.intOf i).toNat)
  case atStart => exact ⟨0, rfl, Nat.zero_le _, Below.refl _ _, Lib.hid rfl⟩
  case round =>
    obtain ⟨k, rfl, hk, hw, he⟩ := hrel
    by_cases h : k < n
    · obtain ⟨g1, o1, rfl, t1, q1⟩ := k1 (by omega)
      obtain ⟨g2, o2, rfl, t2, q2⟩ := k2 (by omega)
      have hkl : k < l.length := by omega
      have hkm : k < m.length := by omega
      obtain ⟨s1, e1, a0, a1, a2, a3, a4⟩ := q1 k _ (List.getElem?_eq_getElem hkl)
      obtain ⟨s2, e2, b0, b1, b2, b3, b4⟩ := q2 k _ (List.getElem?_eq_getElem hkm)
      have m1 := hb1 _ (List.getElem_mem hkl)
      have m2 := hb2 _ (List.getElem_mem hkm)
      have SM := Lib.hid (fun W (hW : Below w.heap.size w W) => same_rl (l[k]'hkl) (m[k]'hkm) s1 e1 s2 e2 W (a3.below hW) (a4.below hW) (b3.below hW) (b4.below hW) m1.1 m1.2 m2.1 m2.2)
      have hst := eqRs_step hkl hkm
      have cc : ∀ g o v, g < w.heap.size → w.cell? ⟨g, o, none⟩ = some v → wr.cell? ⟨g, o, none⟩ = some v := fun g o v hg hv => (hw.cell (p := ⟨g, o, none⟩) hg).trans hv
      have c0 := cc _ _ _ t1 a0
      have c1 := cc _ _ _ t1 a1
      have c2 := cc _ _ _ t1 a2
      have d0 := cc _ _ _ t2 b0
      have d1 := cc _ _ _ t2 b1
      have d2 := cc _ _ _ t2 b2
      have u1 : g1 < wr.heap.size := Nat.lt_of_lt_of_le t1 hw.size
      have u2 : g2 < wr.heap.size := Nat.lt_of_lt_of_le t2 hw.size
      obtain ⟨A1, x1, rfl, _⟩ := a3
      obtain ⟨A2, x2, rfl, _⟩ := a4
      obtain ⟨A3, x3, rfl, _⟩ := b3
      obtain ⟨A4, x4, rfl, _⟩ := b4
      have i0 : 0 ≤ (k : Int) := by omega
      have i1 : (k : Int) < (n : Int) := by omega
      clear a0 a1 a2 b0 b1 b2 q1 q2 k1 k2 cc
      generalize eqR (l[k]'hkl) (m[k]'hkm) = B at *
      generalize (l[k]'hkl).rel = z1 at *
      generalize (m[k]'hkm).rel = z2 at *
      generalize (l[k]'hkl).seq.length = y1 at *
      generalize (l[k]'hkl).exp.length = y2 at *
      generalize (m[k]'hkm).seq.length = y3 at *
      generalize (m[k]'hkm).exp.length = y4 at *
      have hw2 := (hw.alloc hw.size (Obj.cells #[.int .i64 z1, .slice A1 y1 x1, .slice A2 y2 x2] 43)).alloc (by have := hw.size; simp; omega) (Obj.cells #[.int .i64 z2, .slice A3 y3 x3, .slice A4 y4 x4] 43)
      cases B
      · rw [Bool.false_and] at hst
        go_wp2_with (first | (go_at_call 27; (with_reducible refine (SM.out _ hw2).mono ?_); rintro r w3 ⟨rfl, hb3⟩))
        go_ret
        rw [he.out, hst]
        exact ⟨rfl, btr hw2 hb3⟩
      · rw [Bool.true_and] at hst
        go_wp2_with (first | (go_at_call 27; (with_reducible refine (SM.out _ hw2).mono ?_); rintro r w3 ⟨rfl, hb3⟩))
        refine ⟨⟨k + 1, by go_num, by omega, btr hw2 hb3, Lib.hid (he.out.trans hst)⟩, by simp [RowKit.intOf]; omega⟩
    · rw [List.drop_eq_nil_of_le (show l.length ≤ k by omega), List.drop_eq_nil_of_le (show m.length ≤ k by omega)] at he
      go_wp2
      go_ret
      rw [he.out]
      exact ⟨rfl, hw⟩
end Go.Proofs.YtmpnblibbcocpaaDoor
