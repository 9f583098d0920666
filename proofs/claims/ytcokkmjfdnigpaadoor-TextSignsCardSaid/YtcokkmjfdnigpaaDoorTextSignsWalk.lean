/- TextSigns is true of every input: the walk, where the tables of unicode/utf8 stand. -/
import Derived.Test.YtcokkmjfdnigpaaDoorTextI
namespace Go.Proofs.YtcokkmjfdnigpaaDoor
open Go.ChangeShapes Go.WideShapes Go.ChangeAt Go.RowKit Go.Lib

set_option maxRecDepth 100000 in
theorem walk_TextSigns (b : ByteArray) (_w0 : b.size ≤ maxLen) (w : World) (hT : TabsU w) :
    Calls Tryd.prog 9 #[.string b] w fun e w' => e = .returned (.bool true) ∧ Below w.heap.size w w' := by
  have K := Lib.hid (fun W (hb : Below w.heap.size w W) => awake_any W (hT.below hb))
  clear _w0
  by_cases hs : b.size ≤ 2000
  · have hT' := Lib.hid hT
    have hlen := sgs_len _ (bl b) (Nat.le_refl _)
    rw [bl_len] at hlen
    have hjn := jn_sgs _ (bl b) (Nat.le_refl _)
    have his : (sgs (bl b)).all isSg = true := List.all_eq_true.2 (sgs_is _ (bl b) (Nat.le_refl _))
    have C1 := Lib.hid (signs_any b w (by omega) hT)
    have C2 : Hid (∀ (v : Value) (W : World), Rd W v (zl (sgs (bl b))) → TabsU W → Calls Tryd.prog 11 #[v] W fun e w' => e = .returned (.tuple #[.string b, .int .i64 0]) ∧ Below W.heap.size W w') := Lib.hid (fun v W hr hT => by
      have h := Bytes_signs v (sgs (bl b)) W hr (by omega) his hT
      rw [hjn, beq_self_eq_true, if_pos rfl] at h
      exact h)
    have C3 := Lib.hid (fun W => rsigns_any b W (by omega))
    have C4 := Lib.hid (fun W => Count_any b W (by omega))
    have C5 := Lib.hid (fun W (h : TabsU W) => Valid_any b W (by omega) h)
    clear hjn his hT
    generalize sgs (bl b) = L at *
    have C6 : Hid (∀ (v1 v2 : Value) (W : World), Rd W v1 (zl L) → Rd W v2 (zl L) → Calls Tryd.prog 13 #[v1, v2] W fun e w' => e = .returned (.bool true) ∧ Below W.heap.size W w') := Lib.hid (fun v1 v2 W h1 h2 => by
      have h := same_any v1 v2 _ _ W h1 h2 (by simp; omega) (by simp; omega)
      rw [beq_self_eq_true] at h
      exact h)
    go_enter Tryd.func9, Tryd.ntmps9
    go_wp2_with (first
      | (go_at_call 14; (with_reducible refine C1.out.mono ?_); rintro e w1 ⟨u1, rfl, hO1, hb1⟩; replace hO1 := Lib.hid (Rd.of_own hO1))
      | (go_at_call 11; (with_reducible refine (C2.out _ w1 hO1.out (hT'.out.below hb1)).mono ?_); rintro e w2 ⟨rfl, hb2⟩)
      | (go_at_call 23; (with_reducible refine (C3.out w2).mono ?_); rintro e w3 ⟨u2, rfl, hO2, hb3⟩; have hR2 := Lib.hid (Rd.of_own hO2); obtain ⟨A2, c2, rfl, hc2, k2⟩ := (Rd.of_own hO2).nat; clear hO2))
    have hb := Lib.hid (btr (btr hb1 hb2) hb3)
    have hO1' := Lib.hid ((hO1.out.below hb2).below hb3)
    clear hb1 hb2 hb3 hO1 C1 C2 C3
    go_loopw [7, 8] (fun g i wr => ∃ k : Nat, k ≤ L.length ∧ i = .int .i64 k ∧ g = .bool ((L.take k).all (fun c => decide (c ≤ 1114111))) ∧ Below w3.heap.size w3 wr) (fun _ i _ => L.length - (RowKit.intOf i).toNat)
    case atStart => exact ⟨0, Nat.zero_le _, rfl, rfl, Below.refl _ _⟩
    case round =>
      obtain ⟨k, hk, rfl, rfl, hw⟩ := hrel
      by_cases h : k < L.length
      · obtain ⟨b2, o2, rfl, l2, q2⟩ := k2 (by omega)
        have x2 := (hw.cell (p := ⟨b2, o2 + k, none⟩) l2).trans (q2 k h)
        have t2 := Lib.hid (take_all (fun c => decide (c ≤ 1114111)) h)
        clear q2 k2
        generalize L.getD k 0 = x at *
        generalize (L.take k).all (fun c => decide (c ≤ 1114111)) = g at *
        cases g
        all_goals
          go_wp2_with fail
          refine ⟨⟨k + 1, by omega, rfl, congrArg Value.bool ?_, hw⟩, by simp [RowKit.intOf]; omega⟩
          rw [t2.out]
          first | rfl | (rw [Bool.true_and, decide_eq_decide]; omega)
      · have hkl : k = L.length := by omega
        subst hkl
        rw [List.take_length]
        go_wp2_with (first
          | (go_at_call 13; (with_reducible refine (C6.out _ _ wr (hO1'.out.below hw) (hR2.out.below hw)).mono ?_); rintro e w4 ⟨rfl, hb4⟩)
          | (go_at_call 21; (with_reducible refine (C4.out w4).mono ?_); rintro e w5 ⟨rfl, hb5⟩)
          | (go_at_call 26; (with_reducible refine (C5.out w5 (hT'.out.below (btr (btr (btr hb.out hw) hb4) hb5))).mono ?_); rintro e w6 ⟨rfl, hb6⟩)
          | (go_at_call 10; (with_reducible refine (K.out _ (btr (btr (btr (btr hb.out hw) hb4) hb5) hb6)).mono ?_); rintro e w7 ⟨rfl, hb7⟩))
        go_ret
        exact ⟨rfl, btr (btr (btr (btr (btr hb.out hw) hb4) hb5) hb6) hb7⟩
  · have hs2 : 2000 < b.size := by omega
    go_enter Tryd.func9, Tryd.ntmps9
    go_wp2_with (go_at_call 10; (with_reducible refine (K.out w (Below.refl _ _)).mono ?_); rintro e w3 ⟨rfl, hb3⟩)
    go_ret
    exact ⟨rfl, hb3⟩
end Go.Proofs.YtcokkmjfdnigpaaDoor
