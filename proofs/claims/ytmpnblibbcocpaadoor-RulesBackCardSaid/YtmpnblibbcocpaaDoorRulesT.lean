
/- Rules of the program's and the document's held against each other: what Same returns of equal ones. Conditions stand at each theorem. -/
import Derived.Test.YtmpnblibbcocpaaDoorRulesS
namespace Go.Proofs.YtmpnblibbcocpaaDoor
open Go.ChangeShapes Go.WideShapes Go.ChangeAt Go.RowKit Go.Lib
set_option linter.unusedVariables false

/-- a rule of any numbers -/
structure RlZ where
  rel : Int
  seq : List Int
  exp : List Int
def toZ (x : Rl) : RlZ := ⟨(x.rel : Nat), zl x.seq, zl x.exp⟩
/-- a slice of rules reads as these -/
structure RRd (w : World) (v : Value) (l : List RlZ) : Prop where
  ex : ∃ A c, v = .slice A l.length c ∧ l.length ≤ c ∧ (0 < l.length → ∃ g o, A = some ⟨g, o, none⟩ ∧ g < w.heap.size ∧ ∀ j x, l[j]? = some x → ∃ s e, w.cell? ⟨g, o + j * 3, none⟩ = some (.int .i64 x.rel) ∧ w.cell? ⟨g, o + j * 3 + 1, none⟩ = some s ∧ w.cell? ⟨g, o + j * 3 + 2, none⟩ = some e ∧ Rd w s x.seq ∧ Rd w e x.exp)
theorem RRd.below {w w' : World} {v : Value} {l : List RlZ} (h : RRd w v l) (hb : Below w.heap.size w w') : RRd w' v l := by
  obtain ⟨A, c, e, hc, hr⟩ := h.ex
  refine ⟨A, c, e, hc, fun h0 => ?_⟩
  obtain ⟨g, o, e2, hlt, h2⟩ := hr h0
  refine ⟨g, o, e2, Nat.lt_of_lt_of_le hlt hb.size, fun j x hj => ?_⟩
  obtain ⟨s, e, q0, q1, q2, q3, q4⟩ := h2 j x hj
  exact ⟨s, e, (hb.cell (p := ⟨g, o + j * 3, none⟩) hlt).trans q0, (hb.cell (p := ⟨g, o + j * 3 + 1, none⟩) hlt).trans q1, (hb.cell (p := ⟨g, o + j * 3 + 2, none⟩) hlt).trans q2, q3.below hb, q4.below hb⟩
theorem RRd.of_row {w : World} {B : Nat} {v : Value} {acc : List (Rl × Value × Value)} (h : RowR w B v acc) : RRd w v (acc.map fun p => toZ p.1) := by
  obtain ⟨A, c, e, hc, hr⟩ := h.ex
  refine ⟨A, c, by rw [List.length_map]; exact e, by rw [List.length_map]; exact hc, fun h0 => ?_⟩
  rw [List.length_map] at h0
  obtain ⟨g, e2, _, hlt, h2⟩ := hr h0
  refine ⟨g, 0, e2, hlt, fun j x hj => ?_⟩
  rw [List.getElem?_map, Option.map_eq_some_iff] at hj
  obtain ⟨p, hp, rfl⟩ := hj
  obtain ⟨q0, q1, q2⟩ := h2 j p hp
  obtain ⟨o1, o2⟩ := h.own p (List.mem_of_getElem? hp)
  rw [Nat.zero_add]
  exact ⟨p.2.1, p.2.2, q0, q1, q2, Rd.of_own o1, Rd.of_own o2⟩

set_option maxHeartbeats 2000000 in
set_option maxRecDepth 100000 in
theorem Same_yes (va vb : Value) (l : List RlZ) (w : World) (h1 : RRd w va l) (h2 : RRd w vb l) (hl : l.length ≤ 1000000) (hb : ∀ x ∈ l, x.seq.length ≤ 1000000 ∧ x.exp.length ≤ 1000000) :
    Calls Tryd.prog 9 #[va, vb] w fun e w' => e = .returned (.bool true) ∧ Below w.heap.size w w' := by
  obtain ⟨A, c, rfl, hc, k1⟩ := h1.ex
  obtain ⟨D, d, rfl, hd', k2⟩ := h2.ex
  clear h1 h2
  go_enter Tryd.func9, Tryd.ntmps9
  go_wp2
  go_loopw [5] (fun i wr => ∃ k : Nat, i = .int .i64 k ∧ k ≤ l.length ∧ Below w.heap.size w wr) (fun i _ => l.length - (RowKit.intOf i).toNat)
  case atStart => exact ⟨0, rfl, Nat.zero_le _, Below.refl _ _⟩
  case round =>
    obtain ⟨k, rfl, hk, hw⟩ := hrel
    by_cases h : k < l.length
    · obtain ⟨g1, o1, rfl, t1, q1⟩ := k1 (by omega)
      obtain ⟨g2, o2, rfl, t2, q2⟩ := k2 (by omega)
      obtain ⟨x, hx⟩ : ∃ x, l[k]? = some x := ⟨l[k], List.getElem?_eq_getElem h⟩
      obtain ⟨s1, e1, a0, a1, a2, a3, a4⟩ := q1 k x hx
      obtain ⟨s2, e2, b0, b1, b2, b3, b4⟩ := q2 k x hx
      obtain ⟨n1, n2⟩ := hb x (List.mem_of_getElem? hx)
      have S1 : Hid (∀ W, Below w.heap.size w W → Calls Tryd.prog 14 #[s1, s2] W fun e w' => e = .returned (.bool true) ∧ Below W.heap.size W w') := Lib.hid (fun W hW => by
        have := same_any s1 s2 x.seq x.seq W (a3.below hW) (b3.below hW) n1 n1
        rwa [beq_self_eq_true] at this)
      have S2 : Hid (∀ W, Below w.heap.size w W → Calls Tryd.prog 14 #[e1, e2] W fun e w' => e = .returned (.bool true) ∧ Below W.heap.size W w') := Lib.hid (fun W hW => by
        have := same_any e1 e2 x.exp x.exp W (a4.below hW) (b4.below hW) n2 n2
        rwa [beq_self_eq_true] at this)
      have cc : ∀ g o v, g < w.heap.size → w.cell? ⟨g, o, none⟩ = some v → wr.cell? ⟨g, o, none⟩ = some v := fun g o v hg hv => (hw.cell (p := ⟨g, o, none⟩) hg).trans hv
      have c0 := cell_regrown (cc _ _ _ t1 a0)
      have c1 := cell_regrown (cc _ _ _ t1 a1)
      have c2 := cell_regrown (cc _ _ _ t1 a2)
      have d0 := cell_regrown (cc _ _ _ t2 b0)
      have d1 := cell_regrown (cc _ _ _ t2 b1)
      have d2 := cell_regrown (cc _ _ _ t2 b2)
      have hbr := fun d os => hw.trans ((below_regrown wr d os).mono hw.size)
      have i0 : 0 ≤ (k : Int) := by omega
      have i1 : (k : Int) < (l.length : Int) := by omega
      clear a0 a1 a2 a3 a4 b0 b1 b2 b3 b4 q1 q2 k1 k2 cc
      generalize x.rel = z at *
      go_wp2
      refine wp_region_quiet_below (by kernel_rfl) (by kernel_rfl) ?_
      repeat (quiet_step (first | (with_reducible exact Calls.regrown_of (S1.out _ (hbr _ _))) | (with_reducible exact Calls.regrown_of (S2.out _ (hbr _ _)))))
      refine wpQuiet_nil ?_
      intro _ hw'
      obtain ⟨⟨dq, osq⟩, hw''⟩ := hw'
      subst hw''
      have hz := hbr dq osq
      generalize Sort.grow (redrawn wr dq) osq = W3 at *
      go_wp2
      refine ⟨⟨k + 1, by go_num, by omega, hz⟩, by simp [RowKit.intOf]; omega⟩
    · go_wp2
      go_ret
      exact ⟨rfl, hw⟩

theorem sgs_ascii : ∀ l : List UInt8, (∀ b ∈ l, b.toNat < 128) → sgs l = l.map (·.toNat)
  | [], _ => sgs_nil
  | b :: t, h => by
    have hb := h b (by simp)
    have e : sg (b :: t) = (b.toNat, 1) := by
      have hbt : bt (b :: t) 0 = b.toNat := rfl
      unfold sg
      rw [hbt]
      exact eq1 hb
    rw [sgs_step (by simp), e]
    simp only [List.drop_succ_cons, List.drop_zero, List.map_cons]
    rw [sgs_ascii t (fun x hx => h x (by simp [hx]))]
theorem look_a (w : World) (hT : TabsU w) :
    Calls Tryd.prog 7 #[.string ⟨#[38, 99, 32, 60, 99, 104]⟩] w fun e w' => ∃ g c s, e = .returned (.tuple #[.slice (some ⟨g, 0, none⟩) 2 c, .int .i64 0, .int .i64 0]) ∧ w'.cell? ⟨g, 3, none⟩ = some (.int .i64 2) ∧ w'.cell? ⟨g, 4, none⟩ = some s ∧ Rd w' s [99, 104] ∧ g < w'.heap.size ∧ Below w.heap.size w w' := by
  refine (parse_rd ⟨#[38, 99, 32, 60, 99, 104]⟩ w (by decide) hT).mono ?_
  rintro e w' ⟨hA, hb⟩
  have e1 : sgs (bl ⟨#[38, 99, 32, 60, 99, 104]⟩) = [38, 99, 32, 60, 99, 104] := by
    rw [sgs_ascii _ (by decide)]
    rfl
  have e2 : parseP [38, 99, 32, 60, 99, 104].length [] (blankP [38, 99, 32, 60, 99, 104]) = .ok [⟨1, [99], []⟩, ⟨2, [99, 104], []⟩] := by rfl
  rw [e1, e2] at hA
  obtain ⟨A, c, acc, rfl, hacc, hR⟩ := hA
  obtain ⟨p0, p1, rfl⟩ : ∃ p0 p1, acc = [p0, p1] := by
    rcases acc with _ | ⟨p0, _ | ⟨p1, _ | ⟨p2, l⟩⟩⟩ <;> simp at hacc
    exact ⟨p0, p1, rfl⟩
  simp only [List.map_cons, List.map_nil, List.cons.injEq, and_true] at hacc
  obtain ⟨A', c', e3, _, hr⟩ := hR.ex
  injection e3 with e3 _ e4
  subst e3 e4
  obtain ⟨g, rfl, _, hlt, hc⟩ := hr (by simp)
  obtain ⟨q0, q1, q2⟩ := hc 1 p1 rfl
  have o1 := Rd.of_own (hR.own p1 (by simp)).1
  rw [hacc.2] at q0 o1
  exact ⟨g, c, p1.2.1, rfl, q0, q1, o1, hlt, hb⟩
theorem look_b (w : World) (hT : TabsU w) :
    Calls Tryd.prog 7 #[.string ⟨#[60, 97]⟩] w fun e w' => e = .returned (.tuple #[.slice none 0 0, .int .i64 0, .int .i64 10]) ∧ Below w.heap.size w w' := by
  refine (parse_rd ⟨#[60, 97]⟩ w (by decide) hT).mono ?_
  rintro e w' ⟨hA, hb⟩
  have e1 : sgs (bl ⟨#[60, 97]⟩) = [60, 97] := by
    rw [sgs_ascii _ (by decide)]
    rfl
  have e2 : parseP [60, 97].length [] (blankP [60, 97]) = .wrong [60, 97] := by rfl
  rw [e1, e2] at hA
  exact ⟨hA, hb⟩
set_option maxRecDepth 100000 in
theorem awake_rules (w : World) (hT : TabsU w) :
    Calls Tryd.prog 6 #[] w fun e w' => e = .returned (.bool true) ∧ Below w.heap.size w w' := by
  have L1 := Lib.hid (look_a w hT)
  have L2 : Hid (∀ W, Below w.heap.size w W → Calls Tryd.prog 7 #[.string ⟨#[60, 97]⟩] W fun e w' => e = .returned (.tuple #[.slice none 0 0, .int .i64 0, .int .i64 10]) ∧ Below W.heap.size W w') := Lib.hid (fun W hb => look_b W (hT.below hb))
  have SM : Hid (∀ W s, Rd W s [99, 104] → Calls Tryd.prog 14 #[s, .slice (some ⟨W.heap.size, 0, none⟩) 2 2] (W.alloc (Obj.cells #[.int .i64 99, .int .i64 104] 3)) fun e w' => e = .returned (.bool true) ∧ Below (W.alloc (Obj.cells #[.int .i64 99, .int .i64 104] 3)).heap.size (W.alloc (Obj.cells #[.int .i64 99, .int .i64 104] 3)) w') := Lib.hid (fun W s h => by
    have h2 := Rd.lit W [99, 104] 2 rfl
    exact same_any s _ [99, 104] [99, 104] _ (h.below ((Below.refl _ _).alloc (Nat.le_refl _) _)) h2 (by simp) (by simp))
  clear hT
  go_enter Tryd.func6, Tryd.ntmps6
  go_wp2_with (first
    | (go_at_call 7; (with_reducible refine L1.out.mono ?_); rintro e w1 ⟨g, c, s, rfl, q0, q1, hs, hlt, hb1⟩)
    | (go_at_call 7; (with_reducible refine (L2.out _ hb1).mono ?_); rintro e w2 ⟨rfl, hb2⟩; have p0 := (hb2.cell (p := ⟨g, 3, none⟩) hlt).trans q0; have p1 := (hb2.cell (p := ⟨g, 4, none⟩) hlt).trans q1; have hs2 := hs.below hb2; have hlt2 := Nat.lt_of_lt_of_le hlt hb2.size; have hbb := btr hb1 hb2)
    | (go_at_call 14; (with_reducible refine (SM.out _ _ hs2).mono ?_); rintro e w3 ⟨rfl, hb3⟩))
  go_ret
  exact ⟨rfl, btr (hbb.alloc hbb.size _) hb3⟩
end Go.Proofs.YtmpnblibbcocpaaDoor
