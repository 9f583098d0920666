
/- Rules written as a text by the program: rules.Text. Conditions stand at each theorem. -/
import Derived.Test.YtmpnblibbcocpaaDoorRulesX
import Derived.BigQuiet
import Derived.Test.YtmpnblibbcocpaaDoorRulesReadsWalk
import Derived.Deep.RegionHeld3
import Derived.Deep.AppendLies
namespace Go.Proofs.YtmpnblibbcocpaaDoor
open Go.ChangeShapes Go.WideShapes Go.ChangeAt Go.RowKit Go.Lib
set_option linter.unusedVariables false

def relName (n : Int) : List UInt8 := if n = 1 then [38] else if n = 2 then [60] else if n = 3 then [60, 60] else if n = 4 then [60, 60, 60] else [61]
def wordsX (x : RlZ) : List (List UInt8) := [relName x.rel, textB x.seq] ++ (if 0 < x.exp.length then [[47], textB x.exp] else [])
def wordsR : List RlZ → List (List UInt8)
  | [] => []
  | x :: l => wordsX x ++ wordsR l
theorem wordsR_app (l m : List RlZ) : wordsR (l ++ m) = wordsR l ++ wordsR m := by
  induction l with
  | nil => rfl
  | cons c l ih => show wordsX c ++ wordsR (l ++ m) = wordsX c ++ wordsR l ++ wordsR m; rw [ih, List.append_assoc]
theorem wordsR_take {l : List RlZ} {k : Nat} (h : k < l.length) : wordsR (l.take (k + 1)) = wordsR (l.take k) ++ wordsX (l[k]'h) := by
  rw [List.take_add_one, List.getElem?_eq_getElem h, wordsR_app]
  congr 1
  simp [wordsR]
theorem wordsR_len (l : List RlZ) : (wordsR l).length ≤ 4 * l.length := by
  induction l with
  | nil => simp [wordsR]
  | cons c l ih =>
    have : (wordsX c).length ≤ 4 := by unfold wordsX; split <;> simp
    simp only [wordsR, List.length_append, List.length_cons]
    omega
def relOk (x : RlZ) : Bool := decide (1 ≤ x.rel) && decide (x.rel ≤ 5)
def joinR (L : List RlZ) : List UInt8 := Lib.join (wordsR L) [32]
def badT : Value := .tuple #[.string ⟨#[]⟩, .int .i64 1]
/-- what rules.Text returns -/
def tAns (L : List RlZ) : Value := if L.all relOk = true then (match parseP (sgs (joinR L)).length [] (blankP (sgs (joinR L))) with
  | .ok m => if eqRs L (m.map toZ) = true then .tuple #[.string ⟨(joinR L).toArray⟩, .int .i64 0] else badT
  | _ => badT) else badT
theorem tAns_bad {L : List RlZ} {k : Nat} (h : k < L.length) (hb : relOk (L[k]'h) = false) : tAns L = badT := by
  unfold tAns
  rw [if_neg]
  intro ha
  rw [List.all_eq_true] at ha
  rw [ha _ (List.getElem_mem h)] at hb
  cases hb
theorem infoS : (Tryd.prog.info? 9).map (fun i => (i.zero, i.size, i.bytes)) = some (some (.string ⟨#[]⟩), 1, 16) := by kernel_rfl
def names6 : Array Value := #[.string ⟨#[]⟩, .string ⟨#[38]⟩, .string ⟨#[60]⟩, .string ⟨#[60, 60]⟩, .string ⟨#[60, 60, 60]⟩, .string ⟨#[61]⟩]
set_option maxHeartbeats 4000000 in
set_option maxRecDepth 100000 in
theorem rText_any (v : Value) (L : List RlZ) (w : World) (h : RRd w v L) (hl : L.length ≤ 100000) (hb : ∀ x ∈ L, x.seq.length ≤ 1000000 ∧ x.exp.length ≤ 1000000) (hJ : (joinR L).length ≤ 100000) (hT : TabsU w) :
    Calls Tryd.prog 10 #[v] w fun e w' => e = .returned (tAns L) ∧ Below w.heap.size w w' := by
  obtain ⟨j0, hi, hz0, hz1, hz2⟩ := info_parts infoS
  obtain ⟨A, c, rfl, hc, hq⟩ := h.ex
  obtain ⟨n, hn⟩ : ∃ n, L.length = n := ⟨_, rfl⟩
  have hRR : RRd w (.slice A n c) L := by rw [← hn]; exact h
  rw [hn] at hq hl hc ⊢
  clear h
  go_enter Tryd.func10, Tryd.ntmps10
  go_wp2
  generalize hW1 : w.alloc _ = w1
  have hb1 : Below w.heap.size w w1 := by rw [← hW1]; exact (Below.refl _ _).alloc (Nat.le_refl _) _
  have hz : w1.heap.size = w.heap.size + 1 := by rw [← hW1]; simp
  have hnm : ∀ j u, names6[j]? = some u → w1.cell? ⟨w.heap.size, j, none⟩ = some u := by
    intro j u hj
    rw [← hW1, Lib.cell_of_heap (heap_alloc_new w _)]
    exact hj
  clear hW1
  go_loopw [15, 4] (fun i x wr => ∃ k : Nat, i = .int .i64 k ∧ k ≤ n ∧ Below w1.heap.size w1 wr ∧ wr.ownsRow w1.heap.size 9 1 x (wordsR (L.take k)).length (strs (wordsR (L.take k))) ∧ Hid (∀ (j : Nat) (hj : j < L.length), j < k → relOk (L[j]'hj) = true)) (fun i _ _ => n - (RowKit.intOf i).toNat)
  case atStart => exact ⟨0, rfl, Nat.zero_le _, Below.refl _ _, World.ownsRow_nil _ _ _ _, Lib.hid (fun j _ hj => absurd hj (Nat.not_lt_zero _))⟩
  case round =>
    obtain ⟨k, rfl, hk, hw, hrow, hok⟩ := hrel
    have hB := hw.size
    by_cases h : k < n
    · obtain ⟨g, o, rfl, t1, q1⟩ := hq (by omega)
      have hkl : k < L.length := by omega
      obtain ⟨s1, e1, a0, a1, a2, a3, a4⟩ := q1 k _ (List.getElem?_eq_getElem hkl)
      have m1 := hb _ (List.getElem_mem hkl)
      have hst := wordsR_take hkl
      have bw : Below w.heap.size w wr := hb1.trans (hw.mono (by omega))
      have C1 := Lib.hid (fun W (hW : Below w.heap.size w W) => rtext_any s1 _ W (a3.below hW) m1.1)
      have C2 := Lib.hid (fun W (hW : Below w.heap.size w W) => rtext_any e1 _ W (a4.below hW) m1.2)
      have c0 := (bw.cell (p := ⟨g, o + k * 3, none⟩) t1).trans a0
      have c1 := (bw.cell (p := ⟨g, o + k * 3 + 1, none⟩) t1).trans a1
      have c2 := (bw.cell (p := ⟨g, o + k * 3 + 2, none⟩) t1).trans a2
      have u1 : g < wr.heap.size := Nat.lt_of_lt_of_le t1 bw.size
      obtain ⟨A1, x1, rfl, _⟩ := a3
      obtain ⟨A2, x2, rfl, _⟩ := a4
      have i0 : 0 ≤ (k : Int) := by omega
      have i1 : (k : Int) < (n : Int) := by omega
      clear a0 a1 a2 q1 hq m1
      unfold wordsX at hst
      have hbad := fun hx => tAns_bad hkl hx
      unfold relOk at hbad
      have hok2 := fun hx : relOk (L[k]'hkl) = true => Lib.hid (fun (j : Nat) (hj : j < L.length) (h2 : j < k + 1) => show relOk (L[j]'hj) = true from if e : j = k then (by subst e; exact hx) else hok.out j hj (by omega))
      unfold relOk at hok2
      generalize (L[k]'hkl).rel = z at *
      generalize (L[k]'hkl).seq = sq at *
      generalize (L[k]'hkl).exp = ex at *
      generalize sq.length = y1 at *
      generalize hy : ex.length = y2 at *
      by_cases hz1' : z < 1
      · have d1 : decide (z < 1) = true := decide_eq_true hz1'
        have hbb := hbad (by simp; omega)
        go_wp2
        exact bodyPost_ret (v := badT) (by simp [results, Tryd.results10, go_sem, badT]) rfl ⟨by first | rw [hbb] | rfl, btr bw ((Below.refl _ _).alloc (Nat.le_refl _) _)⟩
      · have d1 : decide (z < 1) = false := decide_eq_false hz1'
        by_cases hz5 : 5 < z
        · have d2 : decide (5 < z) = true := decide_eq_true hz5
          have hbb := hbad (by simp; omega)
          go_wp2
          exact bodyPost_ret (v := badT) (by simp [results, Tryd.results10, go_sem, badT]) rfl ⟨by first | rw [hbb] | rfl, btr bw ((Below.refl _ _).alloc (Nat.le_refl _) _)⟩
        · have d2 : decide (5 < z) = false := decide_eq_false hz5
          obtain ⟨zn, rfl⟩ : ∃ zn : Nat, z = zn := ⟨z.toNat, by omega⟩
          have nm := hnm zn (.string ⟨(relName zn).toArray⟩) (by
            have : zn = 1 ∨ zn = 2 ∨ zn = 3 ∨ zn = 4 ∨ zn = 5 := by omega
            rcases this with rfl | rfl | rfl | rfl | rfl <;> rfl)
          replace nm := (hw.cell (p := ⟨w.heap.size, zn, none⟩) (by simp only; omega)).trans nm
          go_wp2
          generalize hW8 : wr.alloc _ = w8
          have hb8 : Below wr.heap.size wr w8 := by rw [← hW8]; exact (Below.refl _ _).alloc (Nat.le_refl _) _
          have hz8 : w8.heap.size = wr.heap.size + 1 := by rw [← hW8]; simp
          have f0 : w8.cell? ⟨wr.heap.size, 0, none⟩ = some (.int .i64 zn) := by rw [← hW8]; simp [go_sem]
          have f1 : w8.cell? ⟨wr.heap.size, 1, none⟩ = some (.slice A1 y1 x1) := by rw [← hW8]; simp [go_sem]
          have f2 : w8.cell? ⟨wr.heap.size, 2, none⟩ = some (.slice A2 y2 x2) := by rw [← hW8]; simp [go_sem]
          have row8 := own_below hrow hb8
          have nm8 := (hb8.cell (p := ⟨w.heap.size, zn, none⟩) (by simp only; omega)).trans nm
          have bw8 : Below w.heap.size w w8 := btr bw hb8
          clear hW8
          have n0 : 0 ≤ (zn : Int) := by omega
          have n6 : (zn : Int) < 6 := by omega
          have ag : u4.ownBlock ≠ some wr.heap.size := fun hh => by have := hrow.lt _ hh; omega
          have an : u4.ownBlock ≠ some w.heap.size := fun hh => by have := hrow.lt _ hh; omega
          generalize hws : (wordsR (L.take k)).length = m at *
          have hm4 : m ≤ 400000 := by
            have := wordsR_len (L.take k)
            rw [List.length_take] at this
            omega
          generalize hxs : strs (wordsR (L.take k)) = xs at *
          go_region_held3 (fun w' => w'.cell? ⟨wr.heap.size, 0, none⟩ = some (.int .i64 zn) ∧ w'.cell? ⟨wr.heap.size, 1, none⟩ = some (.slice A1 y1 x1) ∧ w'.cell? ⟨w.heap.size, zn, none⟩ = some (.string ⟨(relName zn).toArray⟩))
            (first
              | go_keep
              | (go_split_ands
                 refine ⟨?_, ?_, ?_⟩
                 · first | ((rw [hb9.cell (by simp; omega)]; assumption)) | (rw [hgrow.cell_far _ (by simp; omega) (Ne.symm ag)]; assumption)
                 · first | ((rw [hb9.cell (by simp; omega)]; assumption)) | (rw [hgrow.cell_far _ (by simp; omega) (Ne.symm ag)]; assumption)
                 · first | ((rw [hb9.cell (by simp; omega)]; assumption)) | (rw [hgrow.cell_far _ (by simp; omega) (Ne.symm an)]; assumption)))
            (first
              | (go_at_call 24; (with_reducible refine (C1.out _ (bw8.drew)).mono ?_); rintro e w9 ⟨rfl, hb9⟩; have row9 := own_below (row8.drew) hb9; have hz9 : w8.heap.size ≤ w9.heap.size := hb9.size)
              | (refine step_append_lies _ (by rfl) _ _ _ (by rfl) w1.heap.size 9 j0 _ 1 16 Tryd.underlying60 hi hz0 hz1 hz2 rfl (by omega) u4 m xs (by rfl) (row9.alloc _)
                  ⟨w9.heap.size, 0, none⟩ 2 2 [.string ⟨(relName zn).toArray⟩, .string ⟨(textB sq).toArray⟩] (by rfl) (by rfl) (World.news_of_block (cs := #[.string ⟨(relName zn).toArray⟩, .string ⟨(textB sq).toArray⟩]) (t := 9) (fr := (0, 0)) (heap_alloc_new w9 _)) (by simp [Value.oneCell'])
                  (by omega) (by unfold maxLen; omega) (by omega) (by simp; omega) (w9.heap.size + 1) (by simp) ?_; intro gg cap w10 hown10 hgrow hat hlt))
          have f2' : w10.cell? ⟨wr.heap.size, 2, none⟩ = some (.slice A2 y2 x2) := by
            rw [hgrow.cell_far _ (by simp; omega) (Ne.symm ag)]
            exact (((Below.refl w9.heap.size w9).alloc (Nat.le_refl _) _).cell (p := ⟨wr.heap.size, 2, none⟩) (by simp only; omega)).trans ((hb9.cell (p := ⟨wr.heap.size, 2, none⟩) (by show wr.heap.size < w8.heap.size; omega)).trans f2)
          have B8 : Below w1.heap.size w1 w8 := hw.trans (hb8.mono hB)
          have B10 : Below w1.heap.size w1 w10 := (((B8.drew).trans (hb9.mono (by show w1.heap.size ≤ w8.heap.size; omega))).alloc (by omega) _).grown hgrow (by simp; omega) (fun q hq => (hrow.lt q hq).1)
          have b10 : Below w.heap.size w w10 := hb1.trans (B10.mono (by omega))
          have hz10 := B10.size
          have hg10 : wr.heap.size < w10.heap.size := World.block_lt_of_cell? _ _ f2'
          clear hgrow row9 hb9 hat
          by_cases hy0 : 0 < y2
          · have e1 : (0 : Int) < (y2 : Int) := by omega
            rw [if_pos hy0] at hst
            go_wp2_with (first
              | (go_at_call 24; (with_reducible refine (C2.out _ b10).mono ?_); rintro e w11 ⟨rfl, hb11⟩; have row11 := own_below hown10 hb11; have B11 := btr B10 hb11; have hz11 := B11.size)
              | (at_builtin; refine wpList_append_own _ rfl _ _ 60 rfl w1.heap.size 9 j0 (.string ⟨#[]⟩) 1 16 Tryd.underlying60 hi hz0 hz1 hz2 rfl (by decide) _ _ _ rfl (row11.alloc _) ⟨w11.heap.size, 0, none⟩ 2 2 [.string ⟨#[47]⟩, .string ⟨(textB ex).toArray⟩] rfl rfl (World.news_of_block (cs := #[.string ⟨#[47]⟩, .string ⟨(textB ex).toArray⟩]) (t := 9) (fr := (0, 0)) (heap_alloc_new w11 _)) (by simp [Value.oneCell']) ?c3 ?c4 ?c5 ?_))
            case c3 => first | (unfold maxLen; omega) | omega
            case c4 => omega
            case c5 => first | omega | (simp; omega)
            rintro v' w12 hown12 hgrow12 _
            have hB12 : Below w1.heap.size w1 w12 := (B11.alloc (by omega) _).grown hgrow12 (by simp; omega) (fun q hq => by have := (row11.lt q hq).1; omega)
            go_wp2
            exact ⟨⟨k + 1, by go_num, by omega, hB12, by rw [hst]; simp [strs] at hown12 hxs ⊢; rw [hws, hxs]; simpa [hz] using hown12, hok2 (by simp; omega)⟩, by simp [RowKit.intOf]; omega⟩
          · have e1 : ¬ (0 : Int) < (y2 : Int) := by omega
            rw [if_neg hy0] at hst
            have e2 : (y2 : Int) = 0 := by omega
            go_wp2
            exact ⟨⟨k + 1, by go_num, by omega, B10, by rw [hst]; simp [strs] at hown10 hxs ⊢; rw [hws, hxs]; exact hown10, hok2 (by simp; omega)⟩, by simp [RowKit.intOf]; omega⟩
    · have e : k = n := by omega
      subst e
      rw [List.take_of_length_le (by omega)] at hrow
      have hall : L.all relOk = true := List.all_eq_true.2 (fun y hy => by
        obtain ⟨j, hj, rfl⟩ := List.getElem_of_mem hy
        exact hok.out j hj (by omega))
      have bw : Below w.heap.size w wr := hb1.trans (hw.mono (by omega))
      have JN := join_any _ u4 _ _ hrow (by have := wordsR_len L; omega) hJ
      have hans : tAns L = (match parseP (sgs (joinR L)).length [] (blankP (sgs (joinR L))) with
        | .ok m => if eqRs L (m.map toZ) = true then .tuple #[.string ⟨(joinR L).toArray⟩, .int .i64 0] else badT
        | _ => badT) := by unfold tAns; rw [if_pos hall]
      clear hall hok hrow
      rw [show Lib.join (wordsR L) [32] = joinR L from rfl] at JN
      have PR := fun W (hW : Below w.heap.size w W) => parse_rd ⟨(joinR L).toArray⟩ W (by simpa [ByteArray.size] using hJ) (hT.below hW)
      rw [show bl ⟨(joinR L).toArray⟩ = joinR L by simp [bl]] at PR
      cases hp : parseP (sgs (joinR L)).length [] (blankP (sgs (joinR L))) with
      | ok m =>
        rw [hp] at hans
        dsimp only at hans
        replace PR := fun W hW => (hp ▸ PR W hW)
        obtain ⟨l40, l3⟩ := parseP_le3 _ _ _ _ (fun x hx => by cases hx) hp
        have EQ := fun W v2 (hW : Below w.heap.size w W) (h2 : RRd W v2 (m.map toZ)) => EqF_any _ v2 L (m.map toZ) W (hRR.below hW) h2 (by omega) (by rw [List.length_map]; omega) hb (fun y hy => by obtain ⟨q, hq, rfl⟩ := List.mem_map.1 hy; have := l3 q hq; simp [toZ, zl]; omega)
        cases hE : eqRs L (m.map toZ)
        · skip
          rw [hE] at EQ
          go_wp2_with (first
            | (go_at_call 25; (with_reducible refine JN.mono ?_); rintro e w2 ⟨rfl, hb2⟩; have b2 := btr bw hb2)
            | (go_at_call 7; (with_reducible refine (PR _ b2).mono ?_); rintro e w3 ⟨⟨A5, c5, acc, rfl, hm, hrow5⟩, hb3⟩; have b3 := btr b2 hb3; have R5 : RRd w3 (.slice A5 m.length c5) (m.map toZ) := (by have R := RRd.of_row hrow5; rwa [show acc.map (fun p => toZ p.1) = m.map toZ from (by rw [← hm, List.map_map]; rfl)] at R))
            | (go_at_call 26; (with_reducible refine (EQ _ _ b3 R5).mono ?_); rintro e w4 ⟨rfl, hb4⟩))
          exact bodyPost_ret (v := badT) (by simp [results, Tryd.results10, go_sem, badT]) rfl ⟨by rw [hans, hE]; rfl, btr b3 hb4⟩
        · skip
          rw [hE] at EQ
          go_wp2_with (first
            | (go_at_call 25; (with_reducible refine JN.mono ?_); rintro e w2 ⟨rfl, hb2⟩; have b2 := btr bw hb2)
            | (go_at_call 7; (with_reducible refine (PR _ b2).mono ?_); rintro e w3 ⟨⟨A5, c5, acc, rfl, hm, hrow5⟩, hb3⟩; have b3 := btr b2 hb3; have R5 : RRd w3 (.slice A5 m.length c5) (m.map toZ) := (by have R := RRd.of_row hrow5; rwa [show acc.map (fun p => toZ p.1) = m.map toZ from (by rw [← hm, List.map_map]; rfl)] at R))
            | (go_at_call 26; (with_reducible refine (EQ _ _ b3 R5).mono ?_); rintro e w4 ⟨rfl, hb4⟩))
          exact bodyPost_ret (v := .tuple #[.string ⟨(joinR L).toArray⟩, .int .i64 0]) (by simp [results, Tryd.results10, go_sem]) rfl ⟨by rw [hans, hE]; rfl, btr b3 hb4⟩
      | many =>
        rw [hp] at hans
        replace PR := fun W hW => (hp ▸ PR W hW)
        go_wp2_with (first
          | (go_at_call 25; (with_reducible refine JN.mono ?_); rintro e w2 ⟨rfl, hb2⟩; have b2 := btr bw hb2)
          | (go_at_call 7; (with_reducible refine (PR _ b2).mono ?_); rintro e w3 ⟨he, hb3⟩; obtain rfl := he))
        exact bodyPost_ret (v := badT) (by simp [results, Tryd.results10, go_sem, badT]) rfl ⟨by rw [hans], btr b2 hb3⟩
      | wrong M =>
        rw [hp] at hans
        replace PR := fun W hW => (hp ▸ PR W hW)
        go_wp2_with (first
          | (go_at_call 25; (with_reducible refine JN.mono ?_); rintro e w2 ⟨rfl, hb2⟩; have b2 := btr bw hb2)
          | (go_at_call 7; (with_reducible refine (PR _ b2).mono ?_); rintro e w3 ⟨he, hb3⟩; obtain rfl := he))
        exact bodyPost_ret (v := badT) (by simp [results, Tryd.results10, go_sem, badT]) rfl ⟨by rw [hans], btr b2 hb3⟩
end Go.Proofs.YtmpnblibbcocpaaDoor
