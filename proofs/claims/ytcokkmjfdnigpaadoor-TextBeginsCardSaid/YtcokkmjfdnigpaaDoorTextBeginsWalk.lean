/- TextBegins is true of every input: the walk, where the tables of unicode/utf8 stand. -/
import Derived.Test.YtcokkmjfdnigpaaDoorTextV
import Derived.Test.YtcokkmjfdnigpaaDoorTextI
import Derived.Test.YtcokkmjfdnigpaaDoorTextW
import Derived.Deep.RegionHeld3
namespace Go.Proofs.YtcokkmjfdnigpaaDoor
open Go.ChangeShapes Go.WideShapes Go.ChangeAt Go.RowKit Go.Lib
set_option linter.unusedVariables false

theorem bdrew (W : World) : Below W.heap.size W W.drew := ⟨rfl, rfl, rfl, Nat.le_refl _, fun _ _ => rfl⟩
theorem step_run {P : Program} {ops : Array Oper} {o : Oper} {a : Act} {w : World} {K : Act → World → Prop} {Q : Exit → Act → World → Prop} {E : Prop} (hgd : o.guard = none) (s x : Operand) (t : TypeId)
    (ho : o.op = .call { callee := .builtin .append, args := #[s, x], argTypes := #[t, t] }) (v xv v' : Value) (w' : World) (hs : a.eval s = v) (hx : a.eval x = xv)
    (hrun : (Builtin.append_ #[t, t] o.type #[v, xv]).run P w = .ok v' w') (h : K (a.put o.dst v') w') : if Region.wanted o (yielded ops a.tmps) = true then Oper.wp P o a w K Q else E := by
  have hw : Region.wanted o (yielded ops a.tmps) = true := by simp [Region.wanted, hgd]
  rw [if_pos hw]
  unfold Oper.wp execOp
  simp only [ho, resolve, invoke, builtin, Sem.run_bind, Sem.run_pure, Result.andThen_ok, List.map_toArray, List.map_cons, List.map_nil, hs, hx, hrun]
  exact h

set_option maxRecDepth 100000 in
theorem walk_TextBegins (b : ByteArray) (n : Int) (_w0 : b.size ≤ maxLen) (w1 : (Lit.int .i64 n).wf = true) (w : World) (hT : TabsU w) :
    Calls Tryd.prog 7 #[.string b, .int .i64 n] w fun e w' => e = .returned (.bool true) ∧ Below w.heap.size w w' := by
  have K := Lib.hid (fun W (hb : Below w.heap.size w W) => awake_any W (hT.below hb))
  clear _w0
  have hn : -9223372036854775808 ≤ n ∧ n ≤ 9223372036854775807 := by
    simp [Lit.wf, IntKind.min, IntKind.max, IntKind.signed, IntKind.bits] at w1
    omega
  clear w1
  by_cases hs : b.size ≤ 1000
  · have hT' := Lib.hid hT
    have C1 := Lib.hid (Begin_any b n w (by omega) hn.2 hn.1 hT)
    obtain ⟨q1, q2⟩ := sgs_cut n.toNat (bl b)
    have hM := cut_le n.toNat (bl b)
    rw [bl_len] at hM
    have hlen := sgs_len _ (bl b) (Nat.le_refl _)
    rw [bl_len] at hlen
    generalize cutN n.toNat (bl b) = M at *
    have hPs : (b.extract 0 M).size = M := by simp; omega
    have hQs : (b.extract M b.size).size ≤ 1000 := by simp; omega
    have bP : bl (b.extract 0 M) = (bl b).take M := by simp [bl]
    have bQ : bl (b.extract M b.size) = (bl b).drop M := bl_extract b M
    have C2 := Lib.hid (fun W => rsigns_any b W (by omega))
    have C3 : Hid (∀ W, Calls Tryd.prog 21 #[.string (b.extract 0 M)] W fun e w' => e = .returned (.int .i64 (min (max n 0) ((sgs (bl b)).length : Int))) ∧ Below W.heap.size W w') := Lib.hid (fun W => by
      have h := Count_any (b.extract 0 M) W (by omega)
      rw [bP, q1, List.length_take] at h
      rw [show (min (max n 0) ((sgs (bl b)).length : Int)) = ((min n.toNat (sgs (bl b)).length : Nat) : Int) by omega]
      exact h)
    have C4 := fun W (h : TabsU W) => signs_cap (b.extract 0 M) W (by omega) h
    rw [bP, q1] at C4
    have C5 := fun W (h : TabsU W) => signs_cap (b.extract M b.size) W (by omega) h
    rw [bQ, q2] at C5
    have hjoin : (sgs (bl b)).take n.toNat ++ (sgs (bl b)).drop n.toNat = sgs (bl b) := List.take_append_drop _ _
    generalize sgs (bl b) = L at *
    have hl2 : (L.take n.toNat).length + (L.drop n.toNat).length = L.length := by rw [← List.length_append, hjoin]
    have AT := Lib.hid (fun (W : World) (A B : Option Addr) (b1 b2 : Nat) (h1 : Own W b1 (.slice A (L.take n.toNat).length (L.take n.toNat).length) (L.take n.toNat)) (h2 : Own W b2 (.slice B (L.drop n.toNat).length (L.drop n.toNat).length) (L.drop n.toNat)) => by
      have h := append_two W 22 A B b1 b2 _ _ _ h1 h2 (by omega)
      rw [hjoin] at h
      exact h)
    have C6 : Hid (∀ (v1 v2 : Value) (W : World), Rd W v1 (zl L) → Rd W v2 (zl L) → Calls Tryd.prog 13 #[v1, v2] W fun e w' => e = .returned (.bool true) ∧ Below W.heap.size W w') := Lib.hid (fun v1 v2 W h1 h2 => by
      have h := same_any v1 v2 _ _ W h1 h2 (by simp; omega) (by simp; omega)
      rw [beq_self_eq_true] at h
      exact h)
    replace C4 := Lib.hid C4
    replace C5 := Lib.hid C5
    clear q1 q2 bP bQ hjoin hl2 hT
    generalize L.take n.toNat = L1 at *
    generalize L.drop n.toNat = L2 at *
    go_enter Tryd.func7, Tryd.ntmps7
    go_wp2_with (first
      | (go_at_call 22; (with_reducible refine C1.out.mono ?_); rintro e w1 ⟨rfl, hb1⟩)
      | (go_at_call 21; (with_reducible refine (C3.out _).mono ?_); rintro e w3 ⟨rfl, hb3⟩)
      | (go_at_call 23; (with_reducible refine (C2.out w1).mono ?_); rintro e w2 ⟨u2, rfl, hO2, hb2⟩; obtain ⟨A2, c2, rfl, hc2, k2⟩ := (Rd.of_own hO2).nat; clear k2 hO2))
    have hB3 := btr (btr (btr hb1 hb2) hb3) (bdrew w3)
    have hT3 := Lib.hid (hT'.out.below hB3)
    clear hb1 hb2 hb3
    go_region_held3 (fun _ => True) (trivial) (first
      | ((go_at_call 14; (with_reducible refine (C4.out w3.drew hT3.out).mono ?_); rintro e w4 ⟨A4, rfl, hO4, hb4⟩; have hB4 := btr hB3 hb4; have hT4 := Lib.hid (hT'.out.below hB4); clear hb4))
      | ((go_at_call 14; (with_reducible refine (C5.out w4 hT4.out).mono ?_); rintro e w5 ⟨A5, rfl, hO5, hb5⟩; have hB5 := btr hB4 hb5; have hO4' := hO4.below hb5; clear hb5 hO4))
      | ((obtain ⟨l6, w6, hrun, hR6, hb6⟩ := AT.out w5 A4 A5 _ _ hO4' hO5; refine step_run (by rfl) _ _ 22 (by rfl) _ _ l6 w6 (by rfl) (by rfl) hrun ?_; have hB6 := btr hB5 hb6; clear hb6 hrun hO5 hO4')))
    go_wp2_with (first
      | (go_at_call 13; (with_reducible refine (C6.out _ _ w7 (hR6.below hb7) (Rd.of_own hO7)).mono ?_); rintro e w8 ⟨rfl, hb8⟩)
      | (go_at_call 23; (with_reducible refine (C2.out w6).mono ?_); rintro e w7 ⟨u7, rfl, hO7, hb7⟩)
      | (go_at_call 10; (with_reducible refine (K.out _ (btr (btr hB6 hb7) hb8)).mono ?_); rintro e w9 ⟨rfl, hb9⟩))
    go_ret
    exact ⟨rfl, btr (btr (btr hB6 hb7) hb8) hb9⟩
  · have hs2 : 1000 < b.size := by omega
    go_enter Tryd.func7, Tryd.ntmps7
    go_wp2_with (go_at_call 10; (with_reducible refine (K.out w (Below.refl _ _)).mono ?_); rintro e w3 ⟨rfl, hb3⟩)
    go_ret
    exact ⟨rfl, hb3⟩
end Go.Proofs.YtcokkmjfdnigpaaDoor
