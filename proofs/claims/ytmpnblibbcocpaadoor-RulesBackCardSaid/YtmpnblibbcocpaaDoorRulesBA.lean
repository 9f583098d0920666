
/- The document's text of a sequence (word), and whether two lists of rules are the same (sameRules). Conditions stand at each theorem. -/
import Derived.Test.YtmpnblibbcocpaaDoorRulesZ
import Derived.Test.YtmpnblibbcocpaaDoorTextQ
namespace Go.Proofs.YtmpnblibbcocpaaDoor
open Go.ChangeShapes Go.WideShapes Go.ChangeAt Go.RowKit Go.Lib
set_option linter.unusedVariables false

theorem one92_of {x : Nat} (h : isZ (x : Int) = true) : one92 (x : Int) = (if (spR (x : Int) || (x : Int) == 92) = true then [92] else []) ++ oneB x := by
  have e : jn [x] = oneB x := by simp [jn]
  have e2 : spZ (x : Int) = (spR (x : Int) || (x : Int) == 92) := by unfold spZ spR; rfl
  unfold one92
  rw [if_pos h, Int.toNat_natCast, e, e2]
theorem cat3 (P : List UInt8) (x : List UInt8) : (⟨P.toArray⟩ : ByteArray) ++ ⟨#[92]⟩ ++ ⟨x.toArray⟩ = ⟨(P ++ ([92] ++ x)).toArray⟩ := by
  rw [show (⟨#[92]⟩ : ByteArray) = ⟨([92] : List UInt8).toArray⟩ from rfl, cat_bytes, cat_bytes, List.append_assoc]
set_option maxHeartbeats 1000000 in
set_option maxRecDepth 100000 in
theorem word_any (v : Value) (L : List Int) (w : World) (hr : Rd w v L) (hl : L.length ≤ 1000000) (hz : L.all isZ = true) :
    Calls Tryd.prog 28 #[v] w fun e w' => e = .returned (.string ⟨(textB L).toArray⟩) ∧ Below w.heap.size w w' := by
  obtain ⟨A, c, rfl, hc, hq⟩ := hr
  obtain ⟨n, hn⟩ : ∃ n, L.length = n := ⟨_, rfl⟩
  rw [hn] at hq hl hc ⊢
  go_enter Tryd.func28, Tryd.ntmps28
  go_wp2_with fail
  go_loopw [3, 4] (fun t i wr => ∃ k : Nat, k ≤ n ∧ i = .int .i64 k ∧ t = .string ⟨(textB (L.take k)).toArray⟩ ∧ Below w.heap.size w wr) (fun _ i _ => n - (RowKit.intOf i).toNat)
  case atStart => exact ⟨0, Nat.zero_le _, rfl, rfl, Below.refl _ _⟩
  case round =>
    obtain ⟨k, hk, rfl, rfl, hw⟩ := hrel
    have hX := Q5 hn hl hk
    by_cases h : k < n
    · obtain ⟨g, o, rfl, t1, q1⟩ := hq (by omega)
      have hkl : k < L.length := by omega
      have c0 := (hw.cell (p := ⟨g, o + k, none⟩) t1).trans (q1 k h)
      have hst := textB_take hkl
      have hzk : isZ (L.getD k 0) = true := by
        have hm : L.getD k 0 ∈ L := by
          rw [List.getD, List.getElem?_eq_getElem hkl]
          exact List.getElem_mem hkl
        exact List.all_eq_true.1 hz _ hm
      generalize L.getD k 0 = z at *
      obtain ⟨x, rfl⟩ : ∃ x : Nat, z = x := ⟨z.toNat, by unfold isZ at hzk; simp at hzk; omega⟩
      have hx4 : x ≤ 1114367 := by unfold isZ at hzk; simp at hzk; omega
      rw [one92_of hzk] at hst
      have SP := special_rf (x : Int)
      have O := Lib.hid (fun W => One_any x hx4 W)
      have ho := one_len x
      have i0 : 0 ≤ (k : Int) := by omega
      have i1 : (k : Int) < (n : Int) := by omega
      clear q1 hq hzk hx4 hz
      generalize textB (L.take k) = P at *
      cases hs : spR (x : Int)
      · rw [hs] at SP hst
        replace SP := Lib.hid SP
        cases h92 : ((x : Int) == 92)
        · rw [h92] at hst
          replace hst := Lib.hid hst
          go_wp2_with (first
            | (go_at_call 36; (with_reducible refine (SP.out _).mono ?_); rintro r w2 ⟨rfl, rfl⟩)
            | (go_at_call 44; (with_reducible refine (O.out _).mono ?_); rintro e w4 ⟨rfl, hb4⟩))
          refine ⟨⟨k + 1, by omega, rfl, by rw [hst.out, cat_bytes]; rfl, btr hw hb4⟩, by simp [RowKit.intOf]; omega⟩
        · rw [h92] at hst
          replace hst := Lib.hid hst
          go_wp2_with (first
            | (go_at_call 36; (with_reducible refine (SP.out _).mono ?_); rintro r w2 ⟨rfl, rfl⟩)
            | (go_at_call 44; (with_reducible refine (O.out _).mono ?_); rintro e w4 ⟨rfl, hb4⟩))
          refine ⟨⟨k + 1, by omega, rfl, by rw [hst.out, cat3]; rfl, btr hw hb4⟩, by simp [RowKit.intOf]; omega⟩
      · rw [hs] at SP hst
        replace SP := Lib.hid SP
        replace hst := Lib.hid hst
        go_wp2_with (first
          | (go_at_call 36; (with_reducible refine (SP.out _).mono ?_); rintro r w2 ⟨rfl, rfl⟩)
          | (go_at_call 44; (with_reducible refine (O.out _).mono ?_); rintro e w4 ⟨rfl, hb4⟩))
        refine ⟨⟨k + 1, by omega, rfl, by rw [hst.out, cat3]; rfl, btr hw hb4⟩, by simp [RowKit.intOf]; omega⟩
    · have hkl : k = n := by omega
      subst hkl
      rw [List.take_of_length_le (by omega)]
      clear hq hz
      go_wp2
      go_ret
      exact ⟨rfl, hw⟩

theorem eqRs_at {l m : List RlZ} {k : Nat} (h1 : k < l.length) (h2 : k < m.length) (h : eqR (l[k]'h1) (m[k]'h2) = false) : eqRs l m = false := by
  cases he : eqRs l m
  · rfl
  · have := eqRs_iff.1 he
    subst this
    rw [eqR_iff.2 rfl] at h
    cases h
set_option maxHeartbeats 4000000 in
set_option maxRecDepth 100000 in
theorem sameRules_any (va vb : Value) (l m : List RlZ) (w : World) (h1 : RRd w va l) (h2 : RRd w vb m) (hl : l.length ≤ 1000000) (hm : m.length ≤ 1000000) (hb1 : ∀ x ∈ l, x.seq.length ≤ 1000000 ∧ x.exp.length ≤ 1000000) (hb2 : ∀ x ∈ m, x.seq.length ≤ 1000000 ∧ x.exp.length ≤ 1000000) :
    Calls Tryd.prog 29 #[va, vb] w fun e w' => e = .returned (.bool (eqRs l m)) ∧ Below w.heap.size w w' := by
  obtain ⟨A, c, rfl, hc, k1⟩ := h1.ex
  obtain ⟨D, d, rfl, hd', k2⟩ := h2.ex
  clear h1 h2
  by_cases hlen : l.length = m.length
  rotate_left
  · rw [eqRs_len hlen]
    have e : ((l.length : Int) == (m.length : Int)) = false := by rw [beq_eq_false_iff_ne]; omega
    have e' : ((l.length : Int) != (m.length : Int)) = true := by rw [bne_iff_ne]; omega
    clear k1 k2
    generalize l.length = n1 at *
    generalize m.length = n2 at *
    go_enter Tryd.func29, Tryd.ntmps29
    go_wp2
    go_ret
    exact ⟨rfl, Below.refl _ _⟩
  obtain ⟨n, hn⟩ : ∃ n, l.length = n := ⟨_, rfl⟩
  have hn2 : m.length = n := by omega
  rw [hn] at k1 hl hc ⊢
  rw [hn2] at k2 hm hd' ⊢
  clear hlen
  go_enter Tryd.func29, Tryd.ntmps29
  go_wp2
  go_loopw [5] (fun i wr => ∃ k : Nat, i = .int .i64 k ∧ k ≤ n ∧ Below w.heap.size w wr ∧ Hid (eqRs l m = eqRs (l.drop k) (m.drop k))) (fun i _ => n - (RowKit.intOf i).toNat)
  case atStart => exact ⟨0, rfl, Nat.zero_le _, Below.refl _ _, Lib.hid rfl⟩
  case round =>
    obtain ⟨k, rfl, hk, hw, he⟩ := hrel
    by_cases h : k < n
    · obtain ⟨g1, o1, rfl, t1, q1⟩ := k1 (by omega)
      obtain ⟨g2, o2, rfl, t2, q2⟩ := k2 (by omega)
      have hkl : k < l.length := by omega
      have hkm : k < m.length := by omega
      obtain ⟨s1, e1, a0, a1, a2, a3, a4⟩ := q1 k _ (List.getElem?_eq_getElem hkl)
      obtain ⟨s2, e2, b0, b1, b2, b3, b4⟩ := q2 k _ (List.getElem?_eq_getElem hkm)
      have m1 := hb1 _ (List.getElem_mem hkl)
      have m2 := hb2 _ (List.getElem_mem hkm)
      have hst := Lib.hid (eqRs_step hkl hkm)
      have hbad := Lib.hid (@eqRs_at l m k hkl hkm)
      have S1 := fun W (hW : Below w.heap.size w W) => same_any s1 s2 _ _ W (a3.below hW) (b3.below hW) m1.1 m2.1
      have S2 := fun W (hW : Below w.heap.size w W) => same_any e1 e2 _ _ W (a4.below hW) (b4.below hW) m1.2 m2.2
      have cc : ∀ g o v, g < w.heap.size → w.cell? ⟨g, o, none⟩ = some v → wr.cell? ⟨g, o, none⟩ = some v := fun g o v hg hv => (hw.cell (p := ⟨g, o, none⟩) hg).trans hv
      have c0 := cell_regrown (cc _ _ _ t1 a0)
      have c1 := cell_regrown (cc _ _ _ t1 a1)
      have c2 := cell_regrown (cc _ _ _ t1 a2)
      have d0 := cell_regrown (cc _ _ _ t2 b0)
      have d1 := cell_regrown (cc _ _ _ t2 b1)
      have d2 := cell_regrown (cc _ _ _ t2 b2)
      have hbr := fun d os => hw.trans ((below_regrown wr d os).mono hw.size)
      have i0 : 0 ≤ (k : Int) := by omega
      have i1 : (k : Int) < (n : Int) := by omega
      clear a0 a1 a2 a3 a4 b0 b1 b2 b3 b4 q1 q2 k1 k2 cc m1 m2
      unfold eqR at hst hbad
      generalize ((l[k]'hkl).seq == (m[k]'hkm).seq) = p at *
      generalize ((l[k]'hkl).exp == (m[k]'hkm).exp) = q at *
      generalize (l[k]'hkl).rel = z1 at *
      generalize (m[k]'hkm).rel = z2 at *
      replace S1 := Lib.hid S1
      replace S2 := Lib.hid S2
      by_cases hz : z1 = z2
      · subst hz
        rw [beq_self_eq_true] at hst hbad
        cases p
        · have hfin := hbad.out rfl
          go_wp2
          refine wp_region_quiet_below (by kernel_rfl) (by kernel_rfl) ?_
          repeat (first | go_big_quiet_step (first | (with_reducible exact Calls.regrown_of (S1.out _ (hbr _ _))) | (with_reducible exact Calls.regrown_of (S2.out _ (hbr _ _)))) | quiet_step (first | (with_reducible exact Calls.regrown_of (S1.out _ (hbr _ _))) | (with_reducible exact Calls.regrown_of (S2.out _ (hbr _ _)))))
          refine wpQuiet_nil ?_
          intro _ hw'
          obtain ⟨⟨dq, osq⟩, hw''⟩ := hw'
          subst hw''
          have hz := hbr dq osq
          generalize Sort.grow (redrawn wr dq) osq = W3 at *
          go_wp2
          go_ret
          rw [hfin]
          exact ⟨rfl, hz⟩
        · cases q
          · have hfin := hbad.out rfl
            go_wp2
            refine wp_region_quiet_below (by kernel_rfl) (by kernel_rfl) ?_
            repeat (first | go_big_quiet_step (first | (with_reducible exact Calls.regrown_of (S1.out _ (hbr _ _))) | (with_reducible exact Calls.regrown_of (S2.out _ (hbr _ _)))) | quiet_step (first | (with_reducible exact Calls.regrown_of (S1.out _ (hbr _ _))) | (with_reducible exact Calls.regrown_of (S2.out _ (hbr _ _)))))
            refine wpQuiet_nil ?_
            intro _ hw'
            obtain ⟨⟨dq, osq⟩, hw''⟩ := hw'
            subst hw''
            have hz := hbr dq osq
            generalize Sort.grow (redrawn wr dq) osq = W3 at *
            go_wp2
            go_ret
            rw [hfin]
            exact ⟨rfl, hz⟩
          · go_wp2
            refine wp_region_quiet_below (by kernel_rfl) (by kernel_rfl) ?_
            repeat (first | go_big_quiet_step (first | (with_reducible exact Calls.regrown_of (S1.out _ (hbr _ _))) | (with_reducible exact Calls.regrown_of (S2.out _ (hbr _ _)))) | quiet_step (first | (with_reducible exact Calls.regrown_of (S1.out _ (hbr _ _))) | (with_reducible exact Calls.regrown_of (S2.out _ (hbr _ _)))))
            refine wpQuiet_nil ?_
            intro _ hw'
            obtain ⟨⟨dq, osq⟩, hw''⟩ := hw'
            subst hw''
            have hz := hbr dq osq
            generalize Sort.grow (redrawn wr dq) osq = W3 at *
            go_wp2
            refine ⟨⟨k + 1, by go_num, by omega, hz, Lib.hid (he.out.trans hst.out)⟩, by simp [RowKit.intOf]; omega⟩
      · have hfin := hbad.out (by rw [beq_eq_false_iff_ne.2 hz]; rfl)
        have e0 : (z1 == z2) = false := by rw [beq_eq_false_iff_ne]; exact hz
        have e1 : (z1 != z2) = true := by rw [bne_iff_ne]; exact hz
        go_wp2
        refine wp_region_quiet_below (by kernel_rfl) (by kernel_rfl) ?_
        repeat (first | go_big_quiet_step (first | (with_reducible exact Calls.regrown_of (S1.out _ (hbr _ _))) | (with_reducible exact Calls.regrown_of (S2.out _ (hbr _ _)))) | quiet_step (first | (with_reducible exact Calls.regrown_of (S1.out _ (hbr _ _))) | (with_reducible exact Calls.regrown_of (S2.out _ (hbr _ _)))))
        refine wpQuiet_nil ?_
        intro _ hw'
        obtain ⟨⟨dq, osq⟩, hw''⟩ := hw'
        subst hw''
        have hz := hbr dq osq
        generalize Sort.grow (redrawn wr dq) osq = W3 at *
        go_wp2
        go_ret
        rw [hfin]
        exact ⟨rfl, hz⟩
    · rw [List.drop_eq_nil_of_le (show l.length ≤ k by omega), List.drop_eq_nil_of_le (show m.length ≤ k by omega)] at he
      go_wp2
      go_ret
      rw [he.out]
      exact ⟨rfl, hw⟩
end Go.Proofs.YtmpnblibbcocpaaDoor
