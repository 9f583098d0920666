
/- RulesBack is true of every input: the walk, where the listed variables stand. -/
import Derived.Test.YtmpnblibbcocpaaDoorRulesBB
import Derived.Test.YtmpnblibbcocpaaDoorRulesBD
namespace Go.Proofs.YtmpnblibbcocpaaDoor
open Go.ChangeShapes Go.WideShapes Go.ChangeAt Go.RowKit Go.Lib
set_option linter.unusedVariables false

theorem wrap_add {a b : Nat} (h1 : a ≤ 17592186044416) (h2 : b ≤ 17592186044416) : IntKind.i64.wrap ((a : Int) + (b : Int)) = (a : Int) + (b : Int) := by
  unfold IntKind.wrap
  simp [IntKind.bits, IntKind.signed]
  omega
set_option maxHeartbeats 4000000 in
set_option maxRecDepth 100000 in
theorem walk_RulesBack (v : Value) (L : List RlZ) (w : World) (h : RRd w v L) (hb : ∀ x ∈ L, x.seq.length ≤ 17592186044416 ∧ x.exp.length ≤ 17592186044416) (hT : TabsU w) :
    Calls Tryd.prog 4 #[v] w fun e w' => e = .returned (.bool true) ∧ Below w.heap.size w w' := by
  have K := Lib.hid (fun W (hb : Below w.heap.size w W) => awake_rules W (hT.below hb))
  obtain ⟨A, c, rfl, hc, hq⟩ := h.ex
  obtain ⟨n, hn⟩ : ∃ n, L.length = n := ⟨_, rfl⟩
  have hRR : RRd w (.slice A n c) L := by rw [← hn]; exact h
  rw [hn] at hq hc ⊢
  clear h
  go_enter Tryd.func4, Tryd.ntmps4
  go_wp2
  go_loopw [3] (fun i wr => ∃ k : Nat, i = .int .i64 k ∧ k ≤ n ∧ Below w.heap.size w wr ∧ Hid (∀ (j : Nat) (hj : j < L.length), j < k → n ≤ 60 ∧ (L[j]'hj).seq.length + (L[j]'hj).exp.length ≤ 20)) (fun i _ => n - (RowKit.intOf i).toNat)
  case atStart => exact ⟨0, rfl, Nat.zero_le _, Below.refl _ _, Lib.hid (fun j _ hj => absurd hj (Nat.not_lt_zero _))⟩
  case round =>
    obtain ⟨k, rfl, hk, hw, hok⟩ := hrel
    have hB := hw.size
    by_cases h : k < n
    · obtain ⟨g, o, rfl, t1, q1⟩ := hq (by omega)
      have hkl : k < L.length := by omega
      obtain ⟨s1, e1, a0, a1, a2, a3, a4⟩ := q1 k _ (List.getElem?_eq_getElem hkl)
      have m1 := hb _ (List.getElem_mem hkl)
      have c1 := cell_regrown ((hw.cell (p := ⟨g, o + k * 3 + 1, none⟩) t1).trans a1)
      have c2 := cell_regrown ((hw.cell (p := ⟨g, o + k * 3 + 2, none⟩) t1).trans a2)
      have hbr := fun d os => hw.trans ((below_regrown wr d os).mono hw.size)
      obtain ⟨A1, x1, rfl, _⟩ := a3
      obtain ⟨A2, x2, rfl, _⟩ := a4
      have i0 : 0 ≤ (k : Int) := by omega
      have i1 : (k : Int) < (n : Int) := by omega
      have hwa := wrap_add m1.1 m1.2
      have hok2 := fun hx : n ≤ 60 ∧ (L[k]'hkl).seq.length + (L[k]'hkl).exp.length ≤ 20 => Lib.hid (fun (j : Nat) (hj : j < L.length) (h2 : j < k + 1) => show n ≤ 60 ∧ (L[j]'hj).seq.length + (L[j]'hj).exp.length ≤ 20 from if e : j = k then (by subst e; exact hx) else hok.out j hj (by omega))
      clear a0 a1 a2 q1 hq m1
      generalize (L[k]'hkl).seq.length = y1 at *
      generalize (L[k]'hkl).exp.length = y2 at *
      by_cases h60 : 60 < n
      · have d1 : decide ((60 : Int) < (n : Int)) = true := decide_eq_true (by omega)
        clear hok2 h60
        go_wp2
        refine wp_region_quiet_below (by kernel_rfl) (by kernel_rfl) ?_
        repeat (first | go_big_quiet_step (fail) | quiet_step (fail))
        refine wpQuiet_nil ?_
        intro _ hw'
        obtain ⟨⟨dq, osq⟩, hw''⟩ := hw'
        subst hw''
        have hz3 := hbr dq osq
        generalize Sort.grow (redrawn wr dq) osq = W3 at *
        go_wp2_with (first | (go_at_call 6; (with_reducible refine (K.out _ hz3).mono ?_); rintro r w5 ⟨rfl, hb5⟩))
        go_ret
        exact ⟨rfl, btr hz3 hb5⟩
      · have d1 : decide ((60 : Int) < (n : Int)) = false := decide_eq_false (by omega)
        by_cases h20 : 20 < y1 + y2
        · have d2 : decide ((20 : Int) < (y1 : Int) + (y2 : Int)) = true := decide_eq_true (by omega)
          clear hok2 h60 h20
          go_wp2
          refine wp_region_quiet_below (by kernel_rfl) (by kernel_rfl) ?_
          repeat (first | go_big_quiet_step (fail) | quiet_step (fail))
          refine wpQuiet_nil ?_
          intro _ hw'
          obtain ⟨⟨dq, osq⟩, hw''⟩ := hw'
          subst hw''
          have hz3 := hbr dq osq
          generalize Sort.grow (redrawn wr dq) osq = W3 at *
          go_wp2_with (first | (go_at_call 6; (with_reducible refine (K.out _ hz3).mono ?_); rintro r w5 ⟨rfl, hb5⟩))
          go_ret
          exact ⟨rfl, btr hz3 hb5⟩
        · have d2 : decide ((20 : Int) < (y1 : Int) + (y2 : Int)) = false := decide_eq_false (by omega)
          replace hok2 := hok2 ⟨by omega, by omega⟩
          clear h20
          go_wp2
          refine wp_region_quiet_below (by kernel_rfl) (by kernel_rfl) ?_
          repeat (first | go_big_quiet_step (fail) | quiet_step (fail))
          refine wpQuiet_nil ?_
          intro _ hw'
          obtain ⟨⟨dq, osq⟩, hw''⟩ := hw'
          subst hw''
          have hz3 := hbr dq osq
          generalize Sort.grow (redrawn wr dq) osq = W3 at *
          go_wp2
          exact ⟨⟨k + 1, by go_num, by omega, hz3, hok2⟩, by simp [RowKit.intOf]; omega⟩
    · have e : k = n := by omega
      subst e
      have hall : ∀ x ∈ L, L.length ≤ 60 ∧ x.seq.length + x.exp.length ≤ 20 := fun x hx => by
        obtain ⟨j, hj, rfl⟩ := List.getElem_of_mem hx
        have := hok.out j hj (by omega)
        omega
      have h60 : L.length ≤ 60 := by
        rcases L with _ | ⟨x, l⟩
        · simp
        · exact (hall x (by simp)).1
      have hJ : ∀ k, (joinR (L.take k)).length ≤ 100000 := fun k => by
        have h1 := joinR_len (l := L.take k) (m := 20) (fun x hx => (hall x (List.mem_of_mem_take hx)).2)
        have h2 : (L.take k).length ≤ 60 := by rw [List.length_take]; omega
        have h3 : (L.take k).length * (11 + 5 * 20) ≤ 60 * (11 + 5 * 20) := Nat.mul_le_mul_right _ h2
        omega
      have hJL : (joinR L).length ≤ 100000 := by have := hJ L.length; rwa [List.take_length] at this
      have hsm : ∀ x ∈ L, x.seq.length ≤ 1000000 ∧ x.exp.length ≤ 1000000 := fun x hx => by have := (hall x hx).2; omega
      have OF := Lib.hid (fun W (hW : Below w.heap.size w W) => Of_any _ L W (hRR.below hW) (by omega) hsm)
      have TX := fun v1 W (q : RRd W v1 L) (hW : Below w.heap.size w W) => rText_any v1 L W q (by omega) hsm hJL (hT.below hW)
      have DT := fun W (hW : Below w.heap.size w W) => dText_any _ L W (hRR.below hW) (by omega) hsm hJ
      have SM := Lib.hid (fun W v1 (q1 : RRd W v1 L) (hW : Below w.heap.size w W) => Same_yes v1 _ L W q1 (hRR.below hW) (by omega) hsm)
      have PR := fun W (hW : Below w.heap.size w W) => parse_rd ⟨(joinR L).toArray⟩ W (by simpa [ByteArray.size] using hJL) (hT.below hW)
      rw [show bl ⟨(joinR L).toArray⟩ = joinR L by simp [bl]] at PR
      rcases back_law L with ⟨S, e1, e2⟩ | ⟨m, hp, hm, e1, e2⟩
      · rw [e1] at TX
        rw [e2] at DT
        unfold badT at TX
        replace TX := Lib.hid TX
        replace DT := Lib.hid DT
        clear hall hok hJ hJL hsm hq e1 e2 hT PR SM
        go_wp2_with (first
          | (go_at_call 11; (with_reducible refine (OF.out _ hw).mono ?_); rintro r w1 ⟨v1, rfl, hr1, hb1⟩; obtain ⟨A9, c9, rfl, _⟩ := hr1.ex; rw [hn] at hr1; have b1 := btr hw hb1)
          | (go_at_call 10; (with_reducible refine (TX.out _ _ hr1 b1).mono ?_); rintro r w2 ⟨rfl, hb2⟩; have b2 := btr b1 hb2)
          | (go_at_call 12; (with_reducible refine (DT.out _ b2).mono ?_); rintro r w3 ⟨rfl, hb3⟩; have b3 := btr b2 hb3)
          | (go_at_call 6; (with_reducible refine (K.out _ b3).mono ?_); rintro r w5 ⟨rfl, hb5⟩))
        go_ret
        exact ⟨rfl, btr b3 hb5⟩
      · rw [e1] at TX
        rw [e2] at DT
        rw [hp] at PR
        replace PR := Lib.hid (fun W hW => (PR W hW).mono (R' := fun r w' => ∃ A c, r = .returned (.tuple #[.slice A k c, .int .i64 0, .int .i64 0]) ∧ RRd w' (.slice A k c) L ∧ Below W.heap.size W w') (by
          rintro r w' ⟨hA, hb1⟩
          obtain ⟨A, c, acc, rfl, hac, hRw⟩ := hA
          have R := RRd.of_row hRw
          rw [show acc.map (fun p => toZ p.1) = L from by rw [← hm, ← hac, List.map_map]; rfl] at R
          have hl9 : m.length = k := by rw [← hn, ← hm, List.length_map]
          rw [hl9] at R
          exact ⟨A, c, by rw [hl9], R, hb1⟩))
        replace TX := Lib.hid TX
        replace DT := Lib.hid DT
        clear hall hok hJ hJL hsm hq e1 e2 hT hp hm
        generalize joinR L = J at *
        go_wp2_with (first
          | (go_at_call 11; (with_reducible refine (OF.out _ hw).mono ?_); rintro r w1 ⟨v1, rfl, hr1, hb1⟩; obtain ⟨A9, c9, rfl, _⟩ := hr1.ex; rw [hn] at hr1; have b1 := btr hw hb1)
          | (go_at_call 10; (with_reducible refine (TX.out _ _ hr1 b1).mono ?_); rintro r w2 ⟨rfl, hb2⟩; have b2 := btr b1 hb2)
          | (go_at_call 12; (with_reducible refine (DT.out _ b2).mono ?_); rintro r w3 ⟨rfl, hb3⟩; have b3 := btr b2 hb3)
          | (go_at_call 7; (with_reducible refine (PR.out _ b3).mono ?_); rintro r w4 ⟨A4, c4, rfl, hr4, hb4⟩; have b4 := btr b3 hb4)
          | (go_at_call 9; (with_reducible refine (SM.out _ _ hr4 b4).mono ?_); rintro r w5 ⟨rfl, hb5⟩; have b5 := btr b4 hb5)
          | (go_at_call 6; (with_reducible refine (K.out _ b5).mono ?_); rintro r w6 ⟨rfl, hb6⟩))
        go_ret
        exact ⟨rfl, btr b5 hb6⟩
end Go.Proofs.YtmpnblibbcocpaaDoor
