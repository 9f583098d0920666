
/- RulesSigns is true of every input: the walk, where the listed variables stand. -/
import Derived.Test.YtmpnblibbcocpaaDoorRulesZ
import Derived.Test.YtmpnblibbcocpaaDoorTextQ
namespace Go.Proofs.YtmpnblibbcocpaaDoor
open Go.ChangeShapes Go.WideShapes Go.ChangeAt Go.RowKit Go.Lib
set_option linter.unusedVariables false

set_option maxHeartbeats 1000000 in
set_option maxRecDepth 100000 in
theorem signs_bad (a b c : Int) (h : (isZ a && isZ b && isZ c) = false ∨ 1114111 < a ∨ 1114111 < b ∨ 1114111 < c) (w : World) (hT : TabsU w) :
    Calls Tryd.prog 5 #[.int .i64 a, .int .i64 b, .int .i64 c] w fun e w' => e = .returned (.bool true) ∧ Below w.heap.size w w' := by
  have K := Lib.hid (awake_rules w hT)
  have SA := IsSign_any a w
  have SB := IsSign_any b w
  have SC := IsSign_any c w
  generalize isZ a = x at *
  generalize isZ b = y at *
  generalize isZ c = z at *
  clear hT
  cases x
  · clear h
    go_enter Tryd.func5, Tryd.ntmps5
    go_wp2_with (first
      | (go_at_call 13; (with_reducible refine SA.mono ?_); rintro e w1 ⟨rfl, rfl⟩)
      | (go_at_call 6; (with_reducible refine K.out.mono ?_); rintro e w1 ⟨rfl, hb1⟩))
    go_ret
    exact ⟨rfl, hb1⟩
  cases y
  · clear h
    go_enter Tryd.func5, Tryd.ntmps5
    go_wp2_with (first
      | (go_at_call 13; (with_reducible refine SA.mono ?_); rintro e w1 ⟨rfl, rfl⟩)
      | (go_at_call 13; (with_reducible refine SB.mono ?_); rintro e w1 ⟨rfl, rfl⟩)
      | (go_at_call 6; (with_reducible refine K.out.mono ?_); rintro e w1 ⟨rfl, hb1⟩))
    go_ret
    exact ⟨rfl, hb1⟩
  cases z
  · clear h
    go_enter Tryd.func5, Tryd.ntmps5
    go_wp2_with (first
      | (go_at_call 13; (with_reducible refine SA.mono ?_); rintro e w1 ⟨rfl, rfl⟩)
      | (go_at_call 13; (with_reducible refine SB.mono ?_); rintro e w1 ⟨rfl, rfl⟩)
      | (go_at_call 13; (with_reducible refine SC.mono ?_); rintro e w1 ⟨rfl, rfl⟩)
      | (go_at_call 6; (with_reducible refine K.out.mono ?_); rintro e w1 ⟨rfl, hb1⟩))
    go_ret
    exact ⟨rfl, hb1⟩
  replace h : 1114111 < a ∨ 1114111 < b ∨ 1114111 < c := by simpa using h
  by_cases k1 : 1114111 < a
  · clear h
    go_enter Tryd.func5, Tryd.ntmps5
    go_wp2_with (first
      | (go_at_call 13; (with_reducible refine SA.mono ?_); rintro e w1 ⟨rfl, rfl⟩)
      | (go_at_call 13; (with_reducible refine SB.mono ?_); rintro e w1 ⟨rfl, rfl⟩)
      | (go_at_call 13; (with_reducible refine SC.mono ?_); rintro e w1 ⟨rfl, rfl⟩)
      | (go_at_call 6; (with_reducible refine K.out.mono ?_); rintro e w1 ⟨rfl, hb1⟩))
    go_ret
    exact ⟨rfl, hb1⟩
  by_cases k2 : 1114111 < b
  · clear h
    go_enter Tryd.func5, Tryd.ntmps5
    go_wp2_with (first
      | (go_at_call 13; (with_reducible refine SA.mono ?_); rintro e w1 ⟨rfl, rfl⟩)
      | (go_at_call 13; (with_reducible refine SB.mono ?_); rintro e w1 ⟨rfl, rfl⟩)
      | (go_at_call 13; (with_reducible refine SC.mono ?_); rintro e w1 ⟨rfl, rfl⟩)
      | (go_at_call 6; (with_reducible refine K.out.mono ?_); rintro e w1 ⟨rfl, hb1⟩))
    go_ret
    exact ⟨rfl, hb1⟩
  have k3 : 1114111 < c := by omega
  clear h
  go_enter Tryd.func5, Tryd.ntmps5
  go_wp2_with (first
    | (go_at_call 13; (with_reducible refine SA.mono ?_); rintro e w1 ⟨rfl, rfl⟩)
    | (go_at_call 13; (with_reducible refine SB.mono ?_); rintro e w1 ⟨rfl, rfl⟩)
    | (go_at_call 13; (with_reducible refine SC.mono ?_); rintro e w1 ⟨rfl, rfl⟩)
    | (go_at_call 6; (with_reducible refine K.out.mono ?_); rintro e w1 ⟨rfl, hb1⟩))
  go_ret
  exact ⟨rfl, hb1⟩
theorem asz (w : World) (o : Obj) : (w.alloc o).heap.size = w.heap.size + 1 := by simp
theorem Rd.none0 (w : World) : Rd w (.slice none 0 0) [] := ⟨none, 0, rfl, Nat.le_refl _, fun h => by simp at h⟩
abbrev L2w (w : World) (a b c : Int) : World := (((w.alloc (Obj.cells #[.int .i64 a] 3)).alloc (Obj.cells #[.int .i64 b, .int .i64 c] 3)).alloc (Obj.cells #[.int .i64 a, .int .i64 b, .int .i64 c] 3)).alloc (Obj.cells
        #[.int .i64 1, .slice (some ⟨w.heap.size, 0, none⟩) 1 1, .slice none 0 0, .int .i64 3, .slice (some ⟨w.heap.size + 1, 0, none⟩) 2 2, .slice (some ⟨w.heap.size + 1 + 1, 0, none⟩) 3 3] 43)
theorem L2_below (w : World) (a b c : Int) : Below w.heap.size w (L2w w a b c) :=
  ((((Below.refl _ _).alloc (Nat.le_refl _) _).alloc (by simp) _).alloc (by simp; omega) _).alloc (by simp; omega) _
theorem L2_rds (w : World) (a b c : Int) : Rd (L2w w a b c) (.slice (some ⟨w.heap.size, 0, none⟩) 1 1) [a] ∧ Rd (L2w w a b c) (.slice (some ⟨w.heap.size + 1, 0, none⟩) 2 2) [b, c] ∧ Rd (L2w w a b c) (.slice (some ⟨w.heap.size + 1 + 1, 0, none⟩) 3 3) [a, b, c] := by
  have q1 := Rd.lit w [a] 1 rfl
  have q2 := Rd.lit (w.alloc (Obj.cells #[.int .i64 a] 3)) [b, c] 2 rfl
  have q3 := Rd.lit ((w.alloc (Obj.cells #[.int .i64 a] 3)).alloc (Obj.cells #[.int .i64 b, .int .i64 c] 3)) [a, b, c] 3 rfl
  simp only [List.map_cons, List.map_nil, asz] at q1 q2 q3
  have n1 : ∀ (W : World) o, Below W.heap.size W (W.alloc o) := fun W o => (Below.refl _ _).alloc (Nat.le_refl _) _
  exact ⟨(((q1.below (n1 _ _)).below (n1 _ _)).below (n1 _ _)), ((q2.below (n1 _ _)).below (n1 _ _)), (q3.below (n1 _ _))⟩
theorem L2_cells (w : World) (a b c : Int) : (L2w w a b c).heap.size = w.heap.size + 1 + 1 + 1 + 1 ∧ ∀ j u, (#[Value.int .i64 1, .slice (some ⟨w.heap.size, 0, none⟩) 1 1, .slice none 0 0, .int .i64 3, .slice (some ⟨w.heap.size + 1, 0, none⟩) 2 2, .slice (some ⟨w.heap.size + 1 + 1, 0, none⟩) 3 3] : Array Value)[j]? = some u → (L2w w a b c).cell? ⟨w.heap.size + 1 + 1 + 1, j, none⟩ = some u := by
  refine ⟨by simp, fun j u hj => ?_⟩
  have := heap_alloc_new (((w.alloc (Obj.cells #[.int .i64 a] 3)).alloc (Obj.cells #[.int .i64 b, .int .i64 c] 3)).alloc (Obj.cells #[.int .i64 a, .int .i64 b, .int .i64 c] 3)) (Obj.cells
        #[.int .i64 1, .slice (some ⟨w.heap.size, 0, none⟩) 1 1, .slice none 0 0, .int .i64 3, .slice (some ⟨w.heap.size + 1, 0, none⟩) 2 2, .slice (some ⟨w.heap.size + 1 + 1, 0, none⟩) 3 3] 43)
  simp only [asz] at this
  rw [Lib.cell_of_heap this]
  exact hj
theorem L2_lit (w : World) (a b c : Int) : RRd (L2w w a b c) (.slice (some ⟨w.heap.size + 1 + 1 + 1, 0, none⟩) 2 2) (L2 a b c) := by
  obtain ⟨q1, q2, q3⟩ := L2_rds w a b c
  obtain ⟨hs, hc⟩ := L2_cells w a b c
  refine ⟨⟨_, 2, rfl, Nat.le_refl _, fun _ => ⟨_, 0, rfl, by rw [hs]; omega, fun j x hj => ?_⟩⟩⟩
  rcases j with _ | _ | j
  · simp [L2] at hj
    subst hj
    exact ⟨_, _, hc 0 _ rfl, hc 1 _ rfl, hc 2 _ rfl, q1, Rd.none0 _⟩
  · simp [L2] at hj
    subst hj
    exact ⟨_, _, hc 3 _ rfl, hc 4 _ rfl, hc 5 _ rfl, q2, q3⟩
  · simp [L2] at hj
set_option maxHeartbeats 1000000 in
set_option maxRecDepth 100000 in
theorem signs_good (a b c : Nat) (ha : Good a) (hb : Good b) (hc : Good c) (w : World) (hT : TabsU w) :
    Calls Tryd.prog 5 #[.int .i64 a, .int .i64 b, .int .i64 c] w fun e w' => e = .returned (.bool true) ∧ Below w.heap.size w w' := by
  have za : isZ a = true := by unfold isZ; unfold Good at ha; simp; omega
  have zb : isZ b = true := by unfold isZ; unfold Good at hb; simp; omega
  have zc : isZ c = true := by unfold isZ; unfold Good at hc; simp; omega
  have SA := za ▸ IsSign_any a w
  have SB := zb ▸ IsSign_any b w
  have SC := zc ▸ IsSign_any c w
  have la : ¬ (1114111 : Int) < a := by unfold Good at ha; omega
  have lb : ¬ (1114111 : Int) < b := by unfold Good at hb; omega
  have lc : ¬ (1114111 : Int) < c := by unfold Good at hc; omega
  have K := Lib.hid (fun W (hW : Below w.heap.size w W) => awake_rules W (hT.below hW))
  have TX := Lib.hid (fun v W (h : RRd W v (L2 a b c)) (hW : Below w.heap.size w W) => by
    have := rText_any v (L2 a b c) W h (by simp [L2]) (by simp [L2]) (by have := joinR_L2_len a b c; omega) (hT.below hW)
    rw [tAns_L2 ha hb hc] at this
    exact this)
  have hj := joinR_L2_len a b c
  have PR := Lib.hid (fun W (hW : Below w.heap.size w W) => by
    have := parse_rd ⟨(joinR (L2 a b c)).toArray⟩ W (by simpa [ByteArray.size] using (by omega : (joinR (L2 a b c)).length ≤ 100000)) (hT.below hW)
    rw [show bl ⟨(joinR (L2 a b c)).toArray⟩ = joinR (L2 a b c) by simp [bl], parse_L2 ha hb hc] at this
    exact this)
  generalize joinR (L2 a b c) = J at *
  clear hT za zb zc ha hb hc hj
  generalize ea : (a : Int) = x at *
  generalize eb : (b : Int) = y at *
  generalize ec : (c : Int) = z at *
  replace ea := Lib.hid ea
  replace eb := Lib.hid eb
  replace ec := Lib.hid ec
  go_enter Tryd.func5, Tryd.ntmps5
  go_wp2_with (first
    | (go_at_call 13; (with_reducible refine SA.mono ?_); rintro e w1 ⟨rfl, rfl⟩)
    | (go_at_call 13; (with_reducible refine SB.mono ?_); rintro e w1 ⟨rfl, rfl⟩)
    | (go_at_call 13; (with_reducible refine SC.mono ?_); rintro e w1 ⟨rfl, rfl⟩))
  go_wp2_with (first
    | (go_at_call 10; (with_reducible refine (TX.out _ _ (L2_lit w x y z) (L2_below w x y z)).mono ?_); rintro e w5 ⟨rfl, hb5⟩)
    | (go_at_call 7; (with_reducible refine (PR.out _ (btr (L2_below w x y z) hb5)).mono ?_); rintro e w6 ⟨⟨A6, c6, acc, rfl, hacc, hR⟩, hb6⟩))
  obtain ⟨p0, p1, rfl⟩ : ∃ p0 p1, acc = [p0, p1] := by
    rcases acc with _ | ⟨p0, _ | ⟨p1, _ | ⟨p2, l⟩⟩⟩ <;> simp at hacc
    exact ⟨p0, p1, rfl⟩
  simp only [List.map_cons, List.map_nil, List.cons.injEq, and_true] at hacc
  obtain ⟨A', c', f3, _, hr⟩ := hR.ex
  injection f3 with f3 _ f4
  subst f3 f4
  obtain ⟨g, rfl, _, hlt, hc⟩ := hr (by simp)
  obtain ⟨_, m1, _⟩ := hc 0 p0 rfl
  obtain ⟨_, m4, m5⟩ := hc 1 p1 rfl
  have o1 := Rd.of_own (hR.own p0 (by simp)).1
  have o4 := Rd.of_own (hR.own p1 (by simp)).1
  have o5 := Rd.of_own (hR.own p1 (by simp)).2
  rw [hacc.1] at o1
  rw [hacc.2] at o4 o5
  simp only [List.map_cons, List.map_nil, ea.out, eb.out, ec.out] at o1 o4 o5
  obtain ⟨q1, q2, q3⟩ := L2_rds w x y z
  obtain ⟨hz, hcc⟩ := L2_cells w x y z
  have h46 := btr hb5 hb6
  have b6 := btr (L2_below w x y z) h46
  have S1 : Hid (∀ W, Below w6.heap.size w6 W → Calls Tryd.prog 14 #[p0.2.1, .slice (some ⟨w.heap.size, 0, none⟩) 1 1] W fun e w' => e = .returned (.bool true) ∧ Below W.heap.size W w') := Lib.hid (fun W hW => by
    have := same_any _ _ [x] [x] W (o1.below hW) ((q1.below h46).below hW) (by simp) (by simp)
    rwa [beq_self_eq_true] at this)
  have S2 : Hid (∀ W, Below w6.heap.size w6 W → Calls Tryd.prog 14 #[p1.2.1, .slice (some ⟨w.heap.size + 1, 0, none⟩) 2 2] W fun e w' => e = .returned (.bool true) ∧ Below W.heap.size W w') := Lib.hid (fun W hW => by
    have := same_any _ _ [y, z] [y, z] W (o4.below hW) ((q2.below h46).below hW) (by simp) (by simp)
    rwa [beq_self_eq_true] at this)
  have S3 : Hid (∀ W, Below w6.heap.size w6 W → Calls Tryd.prog 14 #[p1.2.2, .slice (some ⟨w.heap.size + 1 + 1, 0, none⟩) 3 3] W fun e w' => e = .returned (.bool true) ∧ Below W.heap.size W w') := Lib.hid (fun W hW => by
    have := same_any _ _ [x, y, z] [x, y, z] W (o5.below hW) ((q3.below h46).below hW) (by simp) (by simp)
    rwa [beq_self_eq_true] at this)
  replace K := Lib.hid (fun W (hW : Below w6.heap.size w6 W) => K.out W (btr b6 hW))
  have c1 := cell_regrown ((h46.cell (p := ⟨w.heap.size + 1 + 1 + 1, 1, none⟩) (by rw [hz]; exact Nat.lt_succ_self _)).trans (hcc 1 _ rfl))
  have c4 := cell_regrown ((h46.cell (p := ⟨w.heap.size + 1 + 1 + 1, 4, none⟩) (by rw [hz]; exact Nat.lt_succ_self _)).trans (hcc 4 _ rfl))
  have c5 := cell_regrown ((h46.cell (p := ⟨w.heap.size + 1 + 1 + 1, 5, none⟩) (by rw [hz]; exact Nat.lt_succ_self _)).trans (hcc 5 _ rfl))
  replace m1 := cell_regrown m1
  replace m4 := cell_regrown m4
  replace m5 := cell_regrown m5
  have hbr := fun d os => below_regrown w6 d os
  clear q1 q2 q3 o1 o4 o5 hcc hz hc hr hR hacc PR TX SA SB SC ea eb ec la lb lc h46 hb5 hb6
  refine wp_region_quiet_below (by kernel_rfl) (by kernel_rfl) ?_
  repeat (quiet_step (first | (with_reducible exact Calls.regrown_of (S1.out _ (hbr _ _))) | (with_reducible exact Calls.regrown_of (S2.out _ (hbr _ _))) | (with_reducible exact Calls.regrown_of (S3.out _ (hbr _ _))) | (with_reducible exact Calls.regrown_of (K.out _ (hbr _ _)))))
  refine wpQuiet_nil ?_
  intro _ hw'
  obtain ⟨⟨dq, osq⟩, hw''⟩ := hw'
  subst hw''
  have hzz := hbr dq osq
  generalize Sort.grow (redrawn w6 dq) osq = W3 at *
  go_wp2
  go_ret
  exact ⟨rfl, btr b6 hzz⟩
theorem walk_RulesSigns (a b c : Int) (_wa : (Lit.int .i64 a).wf = true) (_wb : (Lit.int .i64 b).wf = true) (_wc : (Lit.int .i64 c).wf = true) (w : World) (hT : TabsU w) :
    Calls Tryd.prog 5 #[.int .i64 a, .int .i64 b, .int .i64 c] w fun e w' => e = .returned (.bool true) ∧ Below w.heap.size w w' := by
  by_cases h : (isZ a && isZ b && isZ c) = false ∨ 1114111 < a ∨ 1114111 < b ∨ 1114111 < c
  · exact signs_bad a b c h w hT
  · have h1 : (isZ a && isZ b && isZ c) = true := by
      cases hx : (isZ a && isZ b && isZ c)
      · exact absurd (.inl hx) h
      · rfl
    simp only [Bool.and_eq_true] at h1
    obtain ⟨x, rfl, gx⟩ := good_of h1.1.1 (fun k => h (.inr (.inl k)))
    obtain ⟨y, rfl, gy⟩ := good_of h1.1.2 (fun k => h (.inr (.inr (.inl k))))
    obtain ⟨z, rfl, gz⟩ := good_of h1.2 (fun k => h (.inr (.inr (.inr k))))
    exact signs_good x y z gx gy gz w hT
end Go.Proofs.YtmpnblibbcocpaaDoor
