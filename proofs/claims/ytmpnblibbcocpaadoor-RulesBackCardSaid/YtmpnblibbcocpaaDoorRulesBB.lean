
/- The document's rules as the program's: umlautlaw6.Of, each sequence copied. Conditions stand at each theorem. -/
import Derived.Test.YtmpnblibbcocpaaDoorRulesZ
import Derived.Deep.RegionLawGrows
import Derived.Deep.Upon
namespace Go.Proofs.YtmpnblibbcocpaaDoor
open Go.ChangeShapes Go.WideShapes Go.ChangeAt Go.RowKit Go.Lib
set_option linter.unusedVariables false

/-- numbers, of whatever sign, in a row of their own -/
def OwnZ (w : World) (v : Value) (zs : List Int) : Prop :=
  ∃ A c, v = .slice A zs.length c ∧ zs.length ≤ c ∧ (0 < zs.length → ∃ g cur, A = some ⟨g, 0, none⟩ ∧ w.heap[g]? = some (.cells cur 3 (0, 0)) ∧ cur.toList.take zs.length = zs.map (Value.int .i64))
theorem OwnZ.rd {w : World} {v : Value} {zs : List Int} (h : OwnZ w v zs) : Rd w v zs := by
  obtain ⟨A, c, e, hc, h2⟩ := h
  refine ⟨A, c, e, hc, fun h0 => ?_⟩
  obtain ⟨g, cur, e2, hg, ht⟩ := h2 h0
  refine ⟨g, 0, e2, (Array.getElem?_eq_some_iff.1 hg).1, fun j hj => ?_⟩
  rw [Nat.zero_add, cell_of_row w g j cur 3 (0, 0) hg, ← Array.getElem?_toList]
  have e1 : (cur.toList.take zs.length)[j]? = (zs.map (Value.int .i64))[j]? := by rw [ht]
  rw [List.getElem?_take_of_lt hj] at e1
  rw [e1]
  simp [List.getD, hj]
theorem OwnZ.below {w w' : World} {v : Value} {zs : List Int} (h : OwnZ w v zs) (hb : Below w.heap.size w w') : OwnZ w' v zs := by
  obtain ⟨A, c, e, hc, h2⟩ := h
  refine ⟨A, c, e, hc, fun h0 => ?_⟩
  obtain ⟨g, cur, e2, hg, ht⟩ := h2 h0
  exact ⟨g, cur, e2, (hb.block g (Array.getElem?_eq_some_iff.1 hg).1).trans hg, ht⟩
theorem OwnZ.keep {w w' : World} {b e size n : Nat} {v v2 : Value} {l : List Int} {xs : List Value} (h : OwnZ w v l) (ho : w.ownsRow b e size v2 n xs) (he : e ≠ 3) (hg : w.grownBy w' v2.ownBlock) : OwnZ w' v l := by
  rcases grown_but hg with ⟨g, h1, h2⟩ | ⟨_, h2⟩
  · obtain ⟨cur, hc⟩ := own_block ho h1
    obtain ⟨A, c, e1, hc1, h3⟩ := h
    refine ⟨A, c, e1, hc1, fun h0 => ?_⟩
    obtain ⟨g', cur', e2, hg', ht⟩ := h3 h0
    refine ⟨g', cur', e2, (h2.block g' (Array.getElem?_eq_some_iff.1 hg').1 ?_).trans hg', ht⟩
    rintro rfl
    rw [hc] at hg'
    injection hg' with hg'
    injection hg' with _ hg'
    exact he hg'
  · exact h.below h2
theorem bal {a W : World} (h : Below a.heap.size a W) {o : Obj} : Below a.heap.size a (W.alloc o) := h.alloc h.size o
theorem bdr {a W : World} (h : Below a.heap.size a W) : Below a.heap.size a W.drew := h.drew
theorem step_copy {ops : Array Oper} {o : Oper} {a : Act} {w : World} {K : Act → World → Prop} {Q : Exit → Act → World → Prop} {E : Prop}
    (hg : o.guard = none) (s x : Operand) (hop : o.op = Op.call { callee := Callee.builtin Builtin.append, args := #[s, x], argTypes := #[33, 33] })
    (b : Addr) (hs : a.eval s = .slice (some b) 0 0) (vx : Value) (hx : a.eval x = vx) (zs : List Int) (hr : Rd w vx zs) (hl : zs.length ≤ 1000000)
    (hK : ∀ A c w', OwnZ w' (.slice A zs.length c) zs → Below w.heap.size w w' → K (a.put o.dst (.slice A zs.length c)) w') :
    if Region.wanted o (yielded ops a.tmps) = true then Oper.wp Tryd.prog o a w K Q else E := by
  obtain ⟨i0, hi, hz0, hz1, hz2⟩ := info_parts info3
  obtain ⟨A, c, rfl, hc, h2⟩ := hr
  by_cases h0 : 0 < zs.length
  · obtain ⟨g, off, rfl, hlt, hcell⟩ := h2 h0
    refine step_append_grows hg s x 33 hop 3 i0 (.int .i64 0) 1 8 Tryd.underlying33 hi hz0 hz1 hz2 rfl (by decide) (some b) 0 0 [] hs (fun h => by cases h) rfl (fun _ _ j u hj => by simp at hj)
      ⟨g, off, none⟩ zs.length c (zs.map (Value.int .i64)) hx (by simp) (fun j u hj => ?_) (fun u hu => ?_) (by omega) (by unfold maxLen; omega) (by omega) (fun v' w' hown hgrow => ?_)
    · rw [List.getElem?_map, Option.map_eq_some_iff] at hj
      obtain ⟨z, hz, rfl⟩ := hj
      obtain ⟨hjl, rfl⟩ := List.getElem?_eq_some_iff.1 hz
      have := hcell j hjl
      rw [show zs.getD j 0 = zs[j] from by simp [List.getD, hjl]] at this
      rw [← this]
      unfold Addr.add
      cases j <;> rfl
    · obtain ⟨z, _, rfl⟩ := List.mem_map.1 hu
      rfl
    · have hb : Below w.heap.size w w' := (Below.refl _ _).grown hgrow (Nat.le_refl _) (fun k hk => by cases hk)
      rw [Nat.zero_add, List.nil_append] at hown
      rcases hown.2 with ⟨_, h00⟩ | ⟨g', cap, cur, rfl, hb', hg', hn, hcm, hsz, ht⟩
      · omega
      · exact hK _ cap _ ⟨_, cap, rfl, hn, fun _ => ⟨g', cur, rfl, hg', by simpa using ht⟩⟩ hb
  · obtain rfl : zs = [] := List.eq_nil_of_length_eq_zero (by omega)
    have hw : Region.wanted o (yielded ops a.tmps) = true := by simp [Region.wanted, hg]
    rw [if_pos hw]
    have hrun := run_append_nothing (P := Tryd.prog) w 33 33 o.type 3 i0 Tryd.underlying33 hi (some b) 0 0 (Nat.le_refl _) (.slice A 0 c) (by
      cases A with
      | none => exact Src.ofNil w Tryd.underlying33 c
      | some ad => exact Src.ofSlice (size := i0.size) w Tryd.underlying33 ad 0 c [] (by simp) (fun j u hj => by simp at hj) (fun u hu => by simp at hu))
    unfold Oper.wp
    simp [execOp, hop, resolve, invoke, builtin, hs, hx, hrun, Result.andThen]
    exact hK (some b) 0 w ⟨_, 0, rfl, Nat.le_refl _, fun h => by simp at h⟩ (Below.refl _ _)

def cellsZ (acc : List (RlZ × Value × Value)) : List Value := acc.flatMap fun p => [.int .i64 p.1.rel, p.2.1, p.2.2]
theorem cellsZ_snoc (acc : List (RlZ × Value × Value)) (p : RlZ × Value × Value) : cellsZ (acc ++ [p]) = cellsZ acc ++ [.int .i64 p.1.rel, p.2.1, p.2.2] := by
  unfold cellsZ
  rw [List.flatMap_append]
  simp
theorem cellsZ_get : ∀ (acc : List (RlZ × Value × Value)) (j : Nat) (p : RlZ × Value × Value), acc[j]? = some p → (cellsZ acc)[j * 3]? = some (.int .i64 p.1.rel) ∧ (cellsZ acc)[j * 3 + 1]? = some p.2.1 ∧ (cellsZ acc)[j * 3 + 2]? = some p.2.2
  | [], j, p, h => by simp at h
  | q :: l, 0, p, h => by
    simp at h
    subst h
    exact ⟨rfl, rfl, rfl⟩
  | q :: l, j + 1, p, h => by
    obtain ⟨h0, h1, h2⟩ := cellsZ_get l j p (by simpa using h)
    have e : cellsZ (q :: l) = .int .i64 q.1.rel :: q.2.1 :: q.2.2 :: cellsZ l := rfl
    rw [e, show (j + 1) * 3 = j * 3 + 1 + 1 + 1 by omega]
    exact ⟨h0, h1, h2⟩
theorem RRd.of_rowZ {w : World} {B T : Nat} {v : Value} {n : Nat} {acc : List (RlZ × Value × Value)} (hn : acc.length = n) (h : w.ownsRow B T 3 v n (cellsZ acc)) (ho : ∀ p ∈ acc, OwnZ w p.2.1 p.1.seq ∧ OwnZ w p.2.2 p.1.exp) : RRd w v (acc.map (·.1)) := by
  subst hn
  rcases h.2 with ⟨rfl, h2⟩ | ⟨g, cap, cur, hv, h1, hg, hn, hc, hs, ht⟩
  · obtain rfl := List.eq_nil_of_length_eq_zero h2
    exact ⟨none, 0, rfl, Nat.le_refl _, fun h0 => by simp at h0⟩
  · refine ⟨_, cap, by rw [List.length_map]; exact hv, by rw [List.length_map]; exact hn, fun _ => ⟨g, 0, rfl, (Array.getElem?_eq_some_iff.1 hg).1, fun j x hj => ?_⟩⟩
    rw [List.getElem?_map, Option.map_eq_some_iff] at hj
    obtain ⟨p, hj, rfl⟩ := hj
    obtain ⟨e0, e1, e2⟩ := cellsZ_get acc j p hj
    have hjl : j < acc.length := (List.getElem?_eq_some_iff.1 hj).1
    have q : ∀ t u, t < acc.length * 3 → (cellsZ acc)[t]? = some u → w.cell? ⟨g, t, none⟩ = some u := fun t u ht2 hu => by
      rw [cell_of_row w g t cur T (0, 0) hg, ← Array.getElem?_toList]
      have e : (cur.toList.take (acc.length * 3))[t]? = (cellsZ acc)[t]? := by rw [ht]
      rw [List.getElem?_take_of_lt ht2] at e
      rw [e, hu]
    obtain ⟨o1, o2⟩ := ho p (List.mem_of_getElem? hj)
    rw [Nat.zero_add]
    exact ⟨p.2.1, p.2.2, q _ _ (by omega) e0, q _ _ (by omega) e1, q _ _ (by omega) e2, o1.rd, o2.rd⟩
set_option maxHeartbeats 4000000 in
set_option maxRecDepth 100000 in
theorem Of_any (v : Value) (L : List RlZ) (w : World) (h : RRd w v L) (hl : L.length ≤ 100000) (hb : ∀ x ∈ L, x.seq.length ≤ 1000000 ∧ x.exp.length ≤ 1000000) :
    Calls Tryd.prog 11 #[v] w fun e w' => ∃ v', e = .returned v' ∧ RRd w' v' L ∧ Below w.heap.size w w' := by
  obtain ⟨jR, hi, hz0, hz1, hz2⟩ := info_parts infoR
  obtain ⟨A, c, rfl, hc, hq⟩ := h.ex
  obtain ⟨n, hn⟩ : ∃ n, L.length = n := ⟨_, rfl⟩
  rw [hn] at hq hl hc ⊢
  clear h
  go_enter Tryd.func11, Tryd.ntmps11
  go_wp2
  go_loopw [3, 4] (fun x i wr => ∃ (k : Nat) (acc : List (RlZ × Value × Value)), i = .int .i64 k ∧ k ≤ n ∧ Below w.heap.size w wr ∧ wr.ownsRow w.heap.size 43 3 x k (cellsZ acc) ∧ Hid (acc.map (·.1) = L.take k ∧ ∀ p ∈ acc, OwnZ wr p.2.1 p.1.seq ∧ OwnZ wr p.2.2 p.1.exp)) (fun _ i _ => n - (RowKit.intOf i).toNat)
  case atStart => exact ⟨0, [], rfl, Nat.zero_le _, Below.refl _ _, World.ownsRow_nil _ _ _ _, Lib.hid ⟨by simp, fun p hp => by cases hp⟩⟩
  case round =>
    obtain ⟨k, acc, rfl, hk, hw, hrow, hacc⟩ := hrel
    have hB := hw.size
    by_cases h : k < n
    · obtain ⟨g, o, rfl, t1, q1⟩ := hq (by omega)
      have hkl : k < L.length := by omega
      obtain ⟨s1, e1, a0, a1, a2, a3, a4⟩ := q1 k _ (List.getElem?_eq_getElem hkl)
      have m1 := hb _ (List.getElem_mem hkl)
      have hst : L.take (k + 1) = L.take k ++ [L[k]'hkl] := by rw [List.take_add_one, List.getElem?_eq_getElem hkl]; rfl
      have R1 := Lib.hid (fun W (hW : Below w.heap.size w W) => a3.below hW)
      have R2 := Lib.hid (fun W (hW : Below w.heap.size w W) => a4.below hW)
      obtain ⟨A1, x1, rfl, _⟩ := a3
      obtain ⟨A2, x2, rfl, _⟩ := a4
      have ccell := Lib.hid (fun W (hW : Below w.heap.size w W) => (⟨(hW.cell (p := ⟨g, o + k * 3, none⟩) t1).trans a0, (hW.cell (p := ⟨g, o + k * 3 + 1, none⟩) t1).trans a1, (hW.cell (p := ⟨g, o + k * 3 + 2, none⟩) t1).trans a2⟩ : W.cell? ⟨g, o + k * 3, none⟩ = some (.int .i64 (L[k]'hkl).rel) ∧ W.cell? ⟨g, o + k * 3 + 1, none⟩ = some (.slice A1 (L[k]'hkl).seq.length x1) ∧ W.cell? ⟨g, o + k * 3 + 2, none⟩ = some (.slice A2 (L[k]'hkl).exp.length x2)))
      obtain ⟨c0, c1, c2⟩ := ccell.out wr hw
      have i0 : 0 ≤ (k : Int) := by omega
      have i1 : (k : Int) < (n : Int) := by omega
      clear a0 a1 a2 q1 hq
      generalize hzz : (L[k]'hkl).rel = z at *
      obtain ⟨n1, n2⟩ := m1
      generalize hs1 : (L[k]'hkl).seq = sq at *
      generalize hs2 : (L[k]'hkl).exp = ex at *
      generalize hy1 : sq.length = y1 at *
      generalize hy2 : ex.length = y2 at *
      go_wp2
      go_region_held3 (fun w' => w'.cell? ⟨g, o + k * 3, none⟩ = some (.int .i64 z) ∧ w'.cell? ⟨g, o + k * 3 + 1, none⟩ = some (.slice A1 y1 x1) ∧ w'.cell? ⟨g, o + k * 3 + 2, none⟩ = some (.slice A2 y2 x2))
        (first
          | go_keep
          | (exact ccell.out _ (by repeat (first | assumption | exact Below.refl _ _ | apply bal | apply bdr))))
        (first
          | (refine step_copy (by rfl) (.tmp 17) (.tmp 22) (by rfl) _ (by rfl) _ (by rfl) sq (R1.out _ (by repeat (first | assumption | exact Below.refl _ _ | apply bal | apply bdr))) (by omega) ?_; rw [hy1]; intro A23 c23 w23 h23 hb23
             have HR23 : Below wr.heap.size wr w23 := btr (by repeat (first | assumption | exact Below.refl _ _ | apply bal | apply bdr)) hb23
             have HW23 : Below w.heap.size w w23 := btr (by repeat (first | assumption | exact Below.refl _ _ | apply bal | apply bdr)) hb23
             try (have HX23 : Below w30.heap.size w30 w23 := btr (by repeat (first | assumption | exact Below.refl _ _ | apply bal | apply bdr)) hb23))
          | (refine step_copy (by rfl) (.tmp 24) (.tmp 29) (by rfl) _ (by rfl) _ (by rfl) ex (R2.out _ (by repeat (first | assumption | exact Below.refl _ _ | apply bal | apply bdr))) (by omega) ?_; rw [hy2]; intro A30 c30 w30 h30 hb30
             have HR30 : Below wr.heap.size wr w30 := btr (by repeat (first | assumption | exact Below.refl _ _ | apply bal | apply bdr)) hb30
             have HW30 : Below w.heap.size w w30 := btr (by repeat (first | assumption | exact Below.refl _ _ | apply bal | apply bdr)) hb30
             try (have HX30 : Below w23.heap.size w23 w30 := btr (by repeat (first | assumption | exact Below.refl _ _ | apply bal | apply bdr)) hb30))
          | (refine step_append_lies _ (by rfl) (.tmp 11) (.tmp 32) _ (by rfl) w.heap.size 43 jR _ 3 56 Tryd.underlying23 hi hz0 hz1 hz2 rfl (by omega) u3 k (cellsZ acc) (by rfl) (own_below hrow (by repeat (first | assumption | exact Below.refl _ _ | apply bal | apply bdr)))
                ⟨w30.heap.size, 0, none⟩ 1 1 [.int .i64 z, .slice A23 y1 c23, .slice A30 y2 c30] (by rfl) (by rfl) (World.news_of_block (cs := #[.int .i64 z, .slice A23 y1 c23, .slice A30 y2 c30]) (t := 43) (fr := (0, 0)) (heap_alloc_new w30 _)) (by simp [Value.oneCell'])
                (by omega) (by unfold maxLen; omega) (by omega) (by have := hw.size; have := (show Below w.heap.size w w30 from by assumption).size; simp; omega) (w30.heap.size + 1) (by simp) ?_; intro gg cap w12 hown12 hgrow _hat hlt
             have rW := own_below hrow (show Below wr.heap.size wr (w30.alloc (Obj.cells #[.int .i64 z, .slice A23 y1 c23, .slice A30 y2 c30] 43)) from (by repeat (first | assumption | exact Below.refl _ _ | apply bal | apply bdr)))
             have B12 : Below w.heap.size w w12 := (show Below w.heap.size w (w30.alloc (Obj.cells #[.int .i64 z, .slice A23 y1 c23, .slice A30 y2 c30] 43)) from (by repeat (first | assumption | exact Below.refl _ _ | apply bal | apply bdr))).grown hgrow (by have := (show Below w.heap.size w w30 from by assumption).size; simp; omega) (fun q hq => (hrow.lt q hq).1)
             have y23 := (h23.below (show Below w23.heap.size w23 (w30.alloc (Obj.cells #[.int .i64 z, .slice A23 y1 c23, .slice A30 y2 c30] 43)) from (by repeat (first | assumption | exact Below.refl _ _ | apply bal | apply bdr)))).keep rW rule_ne_int hgrow
             have y30 := (h30.below (show Below w30.heap.size w30 (w30.alloc (Obj.cells #[.int .i64 z, .slice A23 y1 c23, .slice A30 y2 c30] 43)) from (by repeat (first | assumption | exact Below.refl _ _ | apply bal | apply bdr)))).keep rW rule_ne_int hgrow
             have yac : Hid (∀ p ∈ acc, OwnZ w12 p.2.1 p.1.seq ∧ OwnZ w12 p.2.2 p.1.exp) := Lib.hid (fun p hp => ⟨((hacc.out.2 p hp).1.below (show Below wr.heap.size wr (w30.alloc (Obj.cells #[.int .i64 z, .slice A23 y1 c23, .slice A30 y2 c30] 43)) from (by repeat (first | assumption | exact Below.refl _ _ | apply bal | apply bdr)))).keep rW rule_ne_int hgrow, ((hacc.out.2 p hp).2.below (show Below wr.heap.size wr (w30.alloc (Obj.cells #[.int .i64 z, .slice A23 y1 c23, .slice A30 y2 c30] 43)) from (by repeat (first | assumption | exact Below.refl _ _ | apply bal | apply bdr)))).keep rW rule_ne_int hgrow⟩))
          | (refine step_append_lies _ (by rfl) (.tmp 11) (.tmp 32) _ (by rfl) w.heap.size 43 jR _ 3 56 Tryd.underlying23 hi hz0 hz1 hz2 rfl (by omega) u3 k (cellsZ acc) (by rfl) (own_below hrow (by repeat (first | assumption | exact Below.refl _ _ | apply bal | apply bdr)))
                ⟨w23.heap.size, 0, none⟩ 1 1 [.int .i64 z, .slice A23 y1 c23, .slice A30 y2 c30] (by rfl) (by rfl) (World.news_of_block (cs := #[.int .i64 z, .slice A23 y1 c23, .slice A30 y2 c30]) (t := 43) (fr := (0, 0)) (heap_alloc_new w23 _)) (by simp [Value.oneCell'])
                (by omega) (by unfold maxLen; omega) (by omega) (by have := hw.size; have := (show Below w.heap.size w w23 from by assumption).size; simp; omega) (w23.heap.size + 1) (by simp) ?_; intro gg cap w12 hown12 hgrow _hat hlt
             have rW := own_below hrow (show Below wr.heap.size wr (w23.alloc (Obj.cells #[.int .i64 z, .slice A23 y1 c23, .slice A30 y2 c30] 43)) from (by repeat (first | assumption | exact Below.refl _ _ | apply bal | apply bdr)))
             have B12 : Below w.heap.size w w12 := (show Below w.heap.size w (w23.alloc (Obj.cells #[.int .i64 z, .slice A23 y1 c23, .slice A30 y2 c30] 43)) from (by repeat (first | assumption | exact Below.refl _ _ | apply bal | apply bdr))).grown hgrow (by have := (show Below w.heap.size w w23 from by assumption).size; simp; omega) (fun q hq => (hrow.lt q hq).1)
             have y23 := (h23.below (show Below w23.heap.size w23 (w23.alloc (Obj.cells #[.int .i64 z, .slice A23 y1 c23, .slice A30 y2 c30] 43)) from (by repeat (first | assumption | exact Below.refl _ _ | apply bal | apply bdr)))).keep rW rule_ne_int hgrow
             have y30 := (h30.below (show Below w30.heap.size w30 (w23.alloc (Obj.cells #[.int .i64 z, .slice A23 y1 c23, .slice A30 y2 c30] 43)) from (by repeat (first | assumption | exact Below.refl _ _ | apply bal | apply bdr)))).keep rW rule_ne_int hgrow
             have yac : Hid (∀ p ∈ acc, OwnZ w12 p.2.1 p.1.seq ∧ OwnZ w12 p.2.2 p.1.exp) := Lib.hid (fun p hp => ⟨((hacc.out.2 p hp).1.below (show Below wr.heap.size wr (w23.alloc (Obj.cells #[.int .i64 z, .slice A23 y1 c23, .slice A30 y2 c30] 43)) from (by repeat (first | assumption | exact Below.refl _ _ | apply bal | apply bdr)))).keep rW rule_ne_int hgrow, ((hacc.out.2 p hp).2.below (show Below wr.heap.size wr (w23.alloc (Obj.cells #[.int .i64 z, .slice A23 y1 c23, .slice A30 y2 c30] 43)) from (by repeat (first | assumption | exact Below.refl _ _ | apply bal | apply bdr)))).keep rW rule_ne_int hgrow⟩)))
      all_goals
        go_wp2
        refine ⟨⟨k + 1, acc ++ [(⟨z, sq, ex⟩, .slice A23 y1 c23, .slice A30 y2 c30)], by go_num, by omega, B12, by rw [cellsZ_snoc]; exact hown12, Lib.hid ⟨?_, ?_⟩⟩, by simp [RowKit.intOf]; omega⟩
        · rw [hst, List.map_append, hacc.out.1, ← hs1, ← hs2, ← hzz]
          rfl
        · intro p hp
          rcases List.mem_append.1 hp with hp | hp
          · exact yac.out p hp
          · rw [List.mem_singleton] at hp
            subst hp
            exact ⟨y23, y30⟩
    · have e : k = n := by omega
      subst e
      rw [List.take_of_length_le (by omega)] at hacc
      obtain ⟨hm, ho⟩ := hacc.out
      have hal : acc.length = k := by rw [← hn, ← hm, List.length_map]
      have hR := RRd.of_rowZ hal hrow ho
      rw [hm] at hR
      go_wp2
      go_ret
      exact ⟨_, rfl, hR, hw⟩
end Go.Proofs.YtmpnblibbcocpaaDoor
