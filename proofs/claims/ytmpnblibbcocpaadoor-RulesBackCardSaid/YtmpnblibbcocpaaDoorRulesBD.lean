
/- The document's text of rules (umlautref5.Text). Conditions stand at each theorem. -/
import Derived.Test.YtmpnblibbcocpaaDoorRulesBA
import Derived.Test.YtmpnblibbcocpaaDoorRulesBC
namespace Go.Proofs.YtmpnblibbcocpaaDoor
open Go.ChangeShapes Go.WideShapes Go.ChangeAt Go.RowKit Go.Lib
set_option linter.unusedVariables false

def names5 : Array Value := #[.string ⟨#[38]⟩, .string ⟨#[60]⟩, .string ⟨#[60, 60]⟩, .string ⟨#[60, 60, 60]⟩, .string ⟨#[61]⟩]
theorem all_snoc {l : List Int} {j : Nat} (hj : j < l.length) (h : (l.take j).all isZ = true) (h2 : isZ (l.getD j 0) = true) : (l.take (j + 1)).all isZ = true := by
  rw [isz_all hj, h, h2]
  rfl
/-- what the document's Parse answers of a text, and what that makes of the answer -/
theorem parse_d (X : List UInt8) (hs : X.length ≤ 100000) (L : List RlZ) : ∃ (l : List RlZ) (a e : Int), l.length ≤ 1000000 ∧ (∀ x ∈ l, x.seq.length ≤ 1000000 ∧ x.exp.length ≤ 1000000) ∧
    eqEnd (parseP (sgs X).length [] (blankP (sgs X))) L = ((e == 0) && eqRs l L) ∧ (e = 0 ∨ e = 65 ∨ e = 10) ∧
    Hid (∀ W, Calls Tryd.prog 8 #[.string ⟨X.toArray⟩] W fun r w' => ∃ A c, r = .returned (.agg #[.slice A l.length c, .int .i64 a, .int .i64 e]) ∧ RRd w' (.slice A l.length c) l ∧ Below W.heap.size W w') := by
  have P2 := fun W => parse_rf ⟨X.toArray⟩ W (by simpa [ByteArray.size] using hs)
  rw [show bl ⟨X.toArray⟩ = X by simp [bl]] at P2
  rcases hR : parseP (sgs X).length [] (blankP (sgs X)) with l | _ | M
  · rw [hR] at P2
    obtain ⟨h40, h3⟩ := parseP_le3 _ _ _ _ (fun x hx => by cases hx) hR
    refine ⟨l.map toZ, 0, 0, by rw [List.length_map]; omega, fun x hx => ?_, by simp [eqEnd], .inl rfl, Lib.hid (fun W => (P2 W).mono ?_)⟩
    · obtain ⟨y, hy, rfl⟩ := List.mem_map.1 hx
      obtain ⟨q1, q2⟩ := h3 y hy
      simp [toZ, zl]
      omega
    · rintro r w' ⟨hA, hb1⟩
      obtain ⟨A, c, acc, rfl, rfl, hRw⟩ := hA
      refine ⟨A, c, by simp only [List.length_map], ?_, hb1⟩
      have := RRd.of_row hRw
      simp only [List.map_map, List.length_map] at this ⊢
      exact this
  · rw [hR] at P2
    exact ⟨[], 0, 65, by simp, (fun x hx => by cases hx), rfl, .inr (.inl rfl), Lib.hid (fun W => (P2 W).mono fun r w' ⟨hA, hb1⟩ => ⟨none, 0, hA, RRd.nil _, hb1⟩)⟩
  · rw [hR] at P2
    exact ⟨[], _, 10, by simp, (fun x hx => by cases hx), rfl, .inr (.inr rfl), Lib.hid (fun W => (P2 W).mono fun r w' ⟨hA, hb1⟩ => ⟨none, 0, hA, RRd.nil _, hb1⟩)⟩
set_option maxHeartbeats 4000000 in
set_option maxRecDepth 100000 in
theorem dText_any (v : Value) (L : List RlZ) (w : World) (h : RRd w v L) (hl : L.length ≤ 100000) (hb : ∀ x ∈ L, x.seq.length ≤ 1000000 ∧ x.exp.length ≤ 1000000) (hJ : ∀ k, (joinR (L.take k)).length ≤ 100000) :
    Calls Tryd.prog 12 #[v] w fun e w' => e = .returned (dAns L) ∧ Below w.heap.size w w' := by
  obtain ⟨A, c, rfl, hc, hq⟩ := h.ex
  obtain ⟨n, hn⟩ : ∃ n, L.length = n := ⟨_, rfl⟩
  have hRR : RRd w (.slice A n c) L := by rw [← hn]; exact h
  rw [hn] at hq hl hc ⊢
  clear h
  go_enter Tryd.func12, Tryd.ntmps12
  go_wp2
  generalize hW1 : w.alloc _ = w1
  have hb1 : Below w.heap.size w w1 := by rw [← hW1]; exact (Below.refl _ _).alloc (Nat.le_refl _) _
  have hz : w1.heap.size = w.heap.size + 1 := by rw [← hW1]; simp
  have hnm : ∀ j u, names5[j]? = some u → w1.cell? ⟨w.heap.size, j, none⟩ = some u := by
    intro j u hj
    rw [← hW1, Lib.cell_of_heap (heap_alloc_new w _)]
    exact hj
  clear hW1
  go_loopw [5, 6] (fun t i wr => ∃ k : Nat, i = .int .i64 k ∧ k ≤ n ∧ t = .string ⟨(joinR (L.take k)).toArray⟩ ∧ Below w1.heap.size w1 wr ∧ Hid (∀ (j : Nat) (hj : j < L.length), j < k → okR (L[j]'hj) = true)) (fun _ i _ => n - (RowKit.intOf i).toNat)
  case atStart => exact ⟨0, rfl, Nat.zero_le _, rfl, Below.refl _ _, Lib.hid (fun j _ hj => absurd hj (Nat.not_lt_zero _))⟩
  case round =>
    obtain ⟨k, rfl, hk, rfl, hw, hok⟩ := hrel
    have hB := hw.size
    by_cases h : k < n
    · obtain ⟨g, o, rfl, t1, q1⟩ := hq (by omega)
      have hkl : k < L.length := by omega
      obtain ⟨s1, e1, a0, a1, a2, a3, a4⟩ := q1 k _ (List.getElem?_eq_getElem hkl)
      have m1 := hb _ (List.getElem_mem hkl)
      have bw : Below w.heap.size w wr := hb1.trans (hw.mono (by omega))
      have c0 := (bw.cell (p := ⟨g, o + k * 3, none⟩) t1).trans a0
      have c1 := (bw.cell (p := ⟨g, o + k * 3 + 1, none⟩) t1).trans a1
      have c2 := (bw.cell (p := ⟨g, o + k * 3 + 2, none⟩) t1).trans a2
      have r1 := a3.below bw
      have r2 := a4.below bw
      obtain ⟨A1, x1, rfl, hcA1, hr1⟩ := r1
      obtain ⟨A2, x2, rfl, hcA2, hr2⟩ := r2
      have i0 : 0 ≤ (k : Int) := by omega
      have i1 : (k : Int) < (n : Int) := by omega
      clear a0 a1 a2 q1 hq
      have hbad := fun hx => dAns_bad (L := L) hkl hx
      have hok2 := fun hx : okR (L[k]'hkl) = true => Lib.hid (fun (j : Nat) (hj : j < L.length) (h2 : j < k + 1) => show okR (L[j]'hj) = true from if e : j = k then (by subst e; exact hx) else hok.out j hj (by omega))
      have hst : joinR (L.take (k + 1)) = joinR (L.take k) ++ ((if k = 0 then [] else [32]) ++ jR (L[k]'hkl)) := by
        rw [List.take_add_one, List.getElem?_eq_getElem hkl, Option.toList_some, joinR_snoc]
        congr 2
        by_cases hk0 : k = 0
        · subst hk0
          rw [if_pos rfl, if_pos (by simp)]
        · rw [if_neg hk0, if_neg (by intro hh; have := congrArg List.length hh; rw [List.length_take, List.length_nil] at this; omega)]
      have hlen := hJ (k + 1)
      unfold okR relOk at hbad hok2
      unfold jR at hst
      rw [hst] at hlen
      generalize (L[k]'hkl).rel = z at *
      generalize hsq : (L[k]'hkl).seq = sq at *
      generalize hex : (L[k]'hkl).exp = ex at *
      have W1 := fun W (hW : Below w.heap.size w W) (hs : sq.all isZ = true) => word_any _ sq W (a3.below hW) m1.1 hs
      have W2 := fun W (hW : Below w.heap.size w W) (hs : ex.all isZ = true) => word_any _ ex W (a4.below hW) m1.2 hs
      generalize hy1 : sq.length = y1 at *
      generalize hy2 : ex.length = y2 at *
      replace W1 := Lib.hid W1
      replace W2 := Lib.hid W2
      replace hok2 := Lib.hid hok2
      replace hst := Lib.hid hst
      clear a3 a4
      by_cases hz1' : z < 1
      · have d1 : decide (z < 1) = true := decide_eq_true hz1'
        have hbb := hbad (by simp; omega)
        clear hbad hlen
        go_wp2
        exact bodyPost_ret (v := .tuple #[.string ⟨#[]⟩, .bool false]) (by simp [results, Tryd.results12, go_sem]) rfl ⟨by first | rw [hbb] | rfl, bw⟩
      by_cases hz5 : 5 < z
      · have d1 : decide (z < 1) = false := decide_eq_false hz1'
        have d2 : decide (5 < z) = true := decide_eq_true hz5
        have hbb := hbad (by simp; omega)
        clear hbad hlen
        go_wp2
        exact bodyPost_ret (v := .tuple #[.string ⟨#[]⟩, .bool false]) (by simp [results, Tryd.results12, go_sem]) rfl ⟨by first | rw [hbb] | rfl, bw⟩
      have d1 : decide (z < 1) = false := decide_eq_false hz1'
      have d2 : decide (5 < z) = false := decide_eq_false hz5
      have hrel : (decide (1 ≤ z) && decide (z ≤ 5)) = true := by simp; omega
      rw [hrel] at hbad hok2
      replace hbad := Lib.hid hbad
      replace hlen := Lib.hid hlen
      go_wp2
      go_loopw [7] (fun i w2 => ∃ j : Nat, i = .int .i64 j ∧ j ≤ y1 ∧ w2 = wr ∧ Hid ((sq.take j).all isZ = true)) (fun i _ => y1 - (RowKit.intOf i).toNat)
      case atStart => exact ⟨0, rfl, Nat.zero_le _, rfl, Lib.hid (by simp)⟩
      case round =>
        obtain ⟨j, rfl, hj, rfl, hall⟩ := hrel
        by_cases hjy : j < y1
        · obtain ⟨gb, ob, rfl, tb, qb⟩ := hr1 (by omega)
          have cj := qb j (by omega)
          have j0 : 0 ≤ (j : Int) := by omega
          have j1 : (j : Int) < (y1 : Int) := by omega
          have SG := IsSign_any (sq.getD j 0)
          have hsn := Lib.hid (fun h2 => all_snoc (l := sq) (j := j) (by omega) hall.out h2)
          have hno := Lib.hid (fun h2 => isz_none (zs := sq) (k := j) (by omega) h2)
          clear qb
          generalize sq.getD j 0 = cz at *
          cases hc9 : isZ cz
          · have hbb := hbad.out (by rw [hno.out hc9]; simp)
            rw [hc9] at SG
            replace SG := Lib.hid SG
            go_wp2_with (first | (go_at_call 13; (with_reducible refine (SG.out _).mono ?_); rintro r w2 ⟨rfl, rfl⟩))
            exact bodyPost_ret (v := .tuple #[.string ⟨#[]⟩, .bool false]) (by simp [results, Tryd.results12, go_sem]) rfl ⟨by first | rw [hbb] | rfl, bw⟩
          · rw [hc9] at SG
            replace SG := Lib.hid SG
            replace hsn := Lib.hid (hsn.out hc9)
            go_wp2_with (first | (go_at_call 13; (with_reducible refine (SG.out _).mono ?_); rintro r w2 ⟨rfl, rfl⟩))
            exact ⟨⟨j + 1, by go_num, by omega, (by first | rfl | trivial), hsn⟩, by simp [RowKit.intOf]; omega⟩
        · have ej : j = y1 := by omega
          subst ej
          rw [List.take_of_length_le (by omega)] at hall
          clear hjy
          have W1' := Lib.hid (fun W hW => W1.out W hW hall.out)
          have hsq1 := hall
          clear hall
          go_wp2
          go_loopw [8] (fun i w2 => ∃ j : Nat, i = .int .i64 j ∧ j ≤ y2 ∧ w2 = wr ∧ Hid ((ex.take j).all isZ = true)) (fun i _ => y2 - (RowKit.intOf i).toNat)
          case atStart => exact ⟨0, rfl, Nat.zero_le _, rfl, Lib.hid (by simp)⟩
          case round =>
            obtain ⟨j, rfl, hj, rfl, hall⟩ := hrel
            by_cases hjy : j < y2
            · obtain ⟨gb, ob, rfl, tb, qb⟩ := hr2 (by omega)
              have cj := qb j (by omega)
              have j0 : 0 ≤ (j : Int) := by omega
              have j1 : (j : Int) < (y2 : Int) := by omega
              have SG := IsSign_any (ex.getD j 0)
              have hsn := Lib.hid (fun h2 => all_snoc (l := ex) (j := j) (by omega) hall.out h2)
              have hno := Lib.hid (fun h2 => isz_none (zs := ex) (k := j) (by omega) h2)
              clear qb
              generalize ex.getD j 0 = cz at *
              cases hc9 : isZ cz
              · have hbb := hbad.out (by rw [hno.out hc9]; simp)
                rw [hc9] at SG
                replace SG := Lib.hid SG
                go_wp2_with (first | (go_at_call 13; (with_reducible refine (SG.out _).mono ?_); rintro r w2 ⟨rfl, rfl⟩))
                exact bodyPost_ret (v := .tuple #[.string ⟨#[]⟩, .bool false]) (by simp [results, Tryd.results12, go_sem]) rfl ⟨by first | rw [hbb] | rfl, bw⟩
              · rw [hc9] at SG
                replace SG := Lib.hid SG
                replace hsn := Lib.hid (hsn.out hc9)
                go_wp2_with (first | (go_at_call 13; (with_reducible refine (SG.out _).mono ?_); rintro r w2 ⟨rfl, rfl⟩))
                exact ⟨⟨j + 1, by go_num, by omega, (by first | rfl | trivial), hsn⟩, by simp [RowKit.intOf]; omega⟩
            · have ej : j = y2 := by omega
              subst ej
              rw [List.take_of_length_le (by omega)] at hall
              clear hjy
              have hok3 := hok2.out (by rw [hsq1.out, hall.out]; rfl)
              have W2' := Lib.hid (fun W hW => W2.out W hW hall.out)
              obtain ⟨zn, hzn⟩ : ∃ zn : Nat, z = (zn : Int) + 1 := ⟨(z - 1).toNat, by omega⟩
              have hwz : IntKind.i64.wrap (z - 1) = (zn : Int) := by rw [hzn]; unfold IntKind.wrap; simp [IntKind.bits, IntKind.signed]; omega
              have nm := hnm zn (.string ⟨(relName z).toArray⟩) (by
                have : zn = 0 ∨ zn = 1 ∨ zn = 2 ∨ zn = 3 ∨ zn = 4 := by omega
                rw [hzn]
                rcases this with rfl | rfl | rfl | rfl | rfl <;> rfl)
              replace nm := (hw.cell (p := ⟨w.heap.size, zn, none⟩) (by simp only; omega)).trans nm
              have z0 : 0 ≤ (zn : Int) := by omega
              have z5 : (zn : Int) < 5 := by omega
              clear hzn
              clear hall hsq1 hok2 hbad W1 W2
              have hJk := hJ k
              generalize joinR (L.take k) = P at *
              replace hlen := hlen.out
              simp only [List.length_append] at hlen
              generalize textB sq = T1 at *
              generalize textB ex = T2 at *
              generalize relName z = R1 at *
              by_cases hk0 : k = 0
              · have k1 : ¬ (0 : Int) < (k : Int) := by omega
                rw [if_pos hk0, List.length_nil] at hlen
                rw [if_pos hk0, List.nil_append] at hst
                clear hk0
                go_wp2
                generalize hPB : (⟨P.toArray⟩ : ByteArray) = PB at *
                have hp : PB.size = P.length := by rw [← hPB]; simp [ByteArray.size]
                generalize hRB : (⟨R1.toArray⟩ : ByteArray) = RB at *
                have hr : RB.size = R1.length := by rw [← hRB]; simp [ByteArray.size]
                generalize hTB : (⟨T1.toArray⟩ : ByteArray) = TB at *
                have ht : TB.size = T1.length := by rw [← hTB]; simp [ByteArray.size]
                generalize hUB : (⟨T2.toArray⟩ : ByteArray) = UB at *
                have hu : UB.size = T2.length := by rw [← hUB]; simp [ByteArray.size]
                have g0 := cell_regrown c0
                have g1 := cell_regrown c1
                replace nm := cell_regrown nm
                have hbr := fun d os => bw.trans ((below_regrown wr d os).mono bw.size)
                have f1 : ¬ 9223372036854775807 < PB.size + RB.size := by omega
                have f2 : ¬ 9223372036854775807 < PB.size + RB.size + 1 := by simp at hlen; omega
                have f3 : ¬ 9223372036854775807 < PB.size + RB.size + 1 + TB.size := by simp at hlen; omega
                refine wp_region_quiet_below (by kernel_rfl) (by kernel_rfl) ?_
                repeat (first | go_big_quiet_step (first | (with_reducible exact Calls.regrown_of (W1'.out _ (hbr _ _)))) | quiet_step (first | (with_reducible exact Calls.regrown_of (W1'.out _ (hbr _ _)))))
                refine wpQuiet_nil ?_
                intro _ hw'
                obtain ⟨⟨dq, osq⟩, hw''⟩ := hw'
                subst hw''
                have hz3 := hbr dq osq
                have hB3 : Below w1.heap.size w1 (Sort.grow (redrawn wr dq) osq) := hw.trans ((below_regrown wr dq osq).mono hB)
                have c2' := cell_regrown c2 dq osq
                clear nm g0 g1 hbr f1 f2 f3 c0 c1 c2
                generalize Sort.grow (redrawn wr dq) osq = W3 at *
                by_cases hy0 : 0 < j
                · have e1 : (0 : Int) < (j : Int) := by omega
                  rw [if_pos hy0] at hst hlen
                  simp at hlen
                  go_wp2_with (first | (go_at_call 28; (with_reducible refine (W2'.out _ hz3).mono ?_); rintro r w5 ⟨rfl, hb5⟩))
                  exact ⟨⟨k + 1, by go_num, by omega, by rw [hst.out, ← hPB, ← hRB, ← hTB, ← hUB]; simp only [cat_bytes, List.append_assoc], hB3.trans (hb5.mono hB3.size), hok3⟩, by simp [RowKit.intOf]; omega⟩
                · have e1 : ¬ (0 : Int) < (j : Int) := by omega
                  rw [if_neg hy0] at hst hlen
                  go_wp2
                  exact ⟨⟨k + 1, by go_num, by omega, by rw [hst.out, ← hPB, ← hRB, ← hTB]; simp only [cat_bytes, List.append_assoc, List.append_nil], hB3, hok3⟩, by simp [RowKit.intOf]; omega⟩
              · have k1 : (0 : Int) < (k : Int) := by omega
                rw [if_neg hk0, List.length_singleton] at hlen
                rw [if_neg hk0] at hst
                clear hk0
                go_wp2
                generalize hPB : (⟨P.toArray⟩ : ByteArray) ++ ⟨#[32]⟩ = PB at *
                have hp : PB.size = P.length + 1 := by rw [← hPB]; simp [ByteArray.size]
                generalize hRB : (⟨R1.toArray⟩ : ByteArray) = RB at *
                have hr : RB.size = R1.length := by rw [← hRB]; simp [ByteArray.size]
                generalize hTB : (⟨T1.toArray⟩ : ByteArray) = TB at *
                have ht : TB.size = T1.length := by rw [← hTB]; simp [ByteArray.size]
                generalize hUB : (⟨T2.toArray⟩ : ByteArray) = UB at *
                have hu : UB.size = T2.length := by rw [← hUB]; simp [ByteArray.size]
                have g0 := cell_regrown c0
                have g1 := cell_regrown c1
                replace nm := cell_regrown nm
                have hbr := fun d os => bw.trans ((below_regrown wr d os).mono bw.size)
                have f1 : ¬ 9223372036854775807 < PB.size + RB.size := by omega
                have f2 : ¬ 9223372036854775807 < PB.size + RB.size + 1 := by simp at hlen; omega
                have f3 : ¬ 9223372036854775807 < PB.size + RB.size + 1 + TB.size := by simp at hlen; omega
                refine wp_region_quiet_below (by kernel_rfl) (by kernel_rfl) ?_
                repeat (first | go_big_quiet_step (first | (with_reducible exact Calls.regrown_of (W1'.out _ (hbr _ _)))) | quiet_step (first | (with_reducible exact Calls.regrown_of (W1'.out _ (hbr _ _)))))
                refine wpQuiet_nil ?_
                intro _ hw'
                obtain ⟨⟨dq, osq⟩, hw''⟩ := hw'
                subst hw''
                have hz3 := hbr dq osq
                have hB3 : Below w1.heap.size w1 (Sort.grow (redrawn wr dq) osq) := hw.trans ((below_regrown wr dq osq).mono hB)
                have c2' := cell_regrown c2 dq osq
                clear nm g0 g1 hbr f1 f2 f3 c0 c1 c2
                generalize Sort.grow (redrawn wr dq) osq = W3 at *
                by_cases hy0 : 0 < j
                · have e1 : (0 : Int) < (j : Int) := by omega
                  rw [if_pos hy0] at hst hlen
                  simp at hlen
                  go_wp2_with (first | (go_at_call 28; (with_reducible refine (W2'.out _ hz3).mono ?_); rintro r w5 ⟨rfl, hb5⟩))
                  exact ⟨⟨k + 1, by go_num, by omega, by rw [hst.out, ← hPB, ← hRB, ← hTB, ← hUB]; simp only [cat_bytes, List.append_assoc], hB3.trans (hb5.mono hB3.size), hok3⟩, by simp [RowKit.intOf]; omega⟩
                · have e1 : ¬ (0 : Int) < (j : Int) := by omega
                  rw [if_neg hy0] at hst hlen
                  go_wp2
                  exact ⟨⟨k + 1, by go_num, by omega, by rw [hst.out, ← hPB, ← hRB, ← hTB]; simp only [cat_bytes, List.append_assoc, List.append_nil], hB3, hok3⟩, by simp [RowKit.intOf]; omega⟩
    · have e : k = n := by omega
      subst e
      rw [List.take_of_length_le (by omega)]
      have hall : L.all okR = true := List.all_eq_true.2 (fun y hy => by
        obtain ⟨j, hj, rfl⟩ := List.getElem_of_mem hy
        exact hok.out j hj (by omega))
      have bw : Below w.heap.size w wr := hb1.trans (hw.mono (by omega))
      have hJn : (joinR L).length ≤ 100000 := by have := hJ L.length; rwa [List.take_length] at this
      obtain ⟨l, a, e, hl40, hl3, hd, he, P2⟩ := parse_d (joinR L) hJn L
      have hans : dAns L = .tuple #[.string ⟨(joinR L).toArray⟩, .bool ((e == 0) && eqRs l L)] := by
        unfold dAns
        rw [if_pos hall, hd]
      clear hd hall hok hJ hJn
      generalize joinR L = J at *
      have SR := Lib.hid (fun W v1 (q : RRd W v1 l) (hW : Below w.heap.size w W) => sameRules_any v1 _ l L W q (hRR.below hW) hl40 (by omega) hl3 hb)
      generalize eqRs l L = B at *
      by_cases h0 : e = 0
      · subst h0
        cases B
        · go_wp2_with (first
            | (go_at_call 8; (with_reducible refine (P2.out _).mono ?_); rintro r w2 ⟨A2, c2, rfl, hr2, hb2⟩; have b2 := btr bw hb2; have ha2 := (Below.refl w2.heap.size w2).alloc (Nat.le_refl _) (Obj.cells #[.slice A2 l.length c2, .int .i64 a, .int .i64 0] 29); have q2 := hr2.below ha2; have b3 := btr b2 ha2)
            | (go_at_call 29; (with_reducible refine (SR.out _ _ q2 b3).mono ?_); rintro r w5 ⟨rfl, hb5⟩))
          exact bodyPost_ret (v := .tuple #[.string ⟨J.toArray⟩, .bool false]) (by simp [results, Tryd.results12, go_sem]) rfl ⟨by first | (rw [hans]; rfl) | rfl, btr b3 hb5⟩
        · go_wp2_with (first
            | (go_at_call 8; (with_reducible refine (P2.out _).mono ?_); rintro r w2 ⟨A2, c2, rfl, hr2, hb2⟩; have b2 := btr bw hb2; have ha2 := (Below.refl w2.heap.size w2).alloc (Nat.le_refl _) (Obj.cells #[.slice A2 l.length c2, .int .i64 a, .int .i64 0] 29); have q2 := hr2.below ha2; have b3 := btr b2 ha2)
            | (go_at_call 29; (with_reducible refine (SR.out _ _ q2 b3).mono ?_); rintro r w5 ⟨rfl, hb5⟩))
          exact bodyPost_ret (v := .tuple #[.string ⟨J.toArray⟩, .bool true]) (by simp [results, Tryd.results12, go_sem]) rfl ⟨by first | (rw [hans]; rfl) | rfl, btr b3 hb5⟩
      · have e0 : (e == 0) = false := by rw [beq_eq_false_iff_ne]; exact h0
        rw [e0, Bool.false_and] at hans
        clear SR
        go_wp2_with (first
          | (go_at_call 8; (with_reducible refine (P2.out _).mono ?_); rintro r w2 ⟨A2, c2, rfl, hr2, hb2⟩; have b2 := btr bw hb2; have ha2 := (Below.refl w2.heap.size w2).alloc (Nat.le_refl _) (Obj.cells #[.slice A2 l.length c2, .int .i64 a, .int .i64 e] 29); have b3 := btr b2 ha2))
        exact bodyPost_ret (v := .tuple #[.string ⟨J.toArray⟩, .bool false]) (by simp [results, Tryd.results12, go_sem]) rfl ⟨by first | (rw [hans]; rfl) | rw [hans] | rfl, b3⟩
end Go.Proofs.YtmpnblibbcocpaaDoor
