/- Signs' bytes together by the document (umlautref1.Bytes): a text, or refused. -/
import Derived.Test.YtcokkmjfdnigpaaDoorTextQ
namespace Go.Proofs.YtcokkmjfdnigpaaDoor
open Go.ChangeShapes Go.WideShapes Go.ChangeAt Go.RowKit Go.Lib
set_option linter.unusedVariables false

set_option maxRecDepth 100000 in
theorem rBytes_arg (v : Value) (zs : List Int) (w : World) (hr : Rd w v zs) (hl : zs.length ≤ 100000) (hz : zs.all isZ = false) :
    Calls Tryd.prog 12 #[v] w fun e w' => e = .returned (.tuple #[.string ⟨#[]⟩, .int .i64 1]) ∧ Below w.heap.size w w' := by
  obtain ⟨A, c, rfl, hc, k2⟩ := hr
  go_enter Tryd.func12, Tryd.ntmps12
  go_wp2_with fail
  go_loop [4] (fun i => ∃ k : Nat, k ≤ zs.length ∧ i = .int .i64 k ∧ Hid ((zs.take k).all isZ = true)) (fun i => zs.length - (RowKit.intOf i).toNat)
  case atStart => exact ⟨0, Nat.zero_le _, rfl, Lib.hid rfl⟩
  case round =>
    obtain ⟨k, hk, rfl, ha⟩ := hrel
    by_cases h : k < zs.length
    · obtain ⟨b, o, rfl, hlt, q⟩ := k2 (by omega)
      have x2 := q k h
      have I := Lib.hid (fun W => IsSign_any (zs.getD k 0) W)
      have t2 := Lib.hid (isz_all h)
      clear q k2 hz
      generalize zs.getD k 0 = x at *
      generalize isZ x = z at *
      cases z
      · go_wp2_with (go_at_call 32; (with_reducible refine (I.out _).mono ?_); rintro e w' ⟨rfl, rfl⟩)
        go_ret2
        exact ⟨rfl, Below.refl _ _⟩
      · go_wp2_with (go_at_call 32; (with_reducible refine (I.out _).mono ?_); rintro e w' ⟨rfl, rfl⟩)
        go_round
        case rel => exact ⟨k + 1, by omega, by go_num, Lib.hid (by rw [t2.out, ha.out]; rfl)⟩
        case measure => simp [RowKit.intOf]; omega
    · have hkl : k = zs.length := by omega
      subst hkl
      have := ha.out
      rw [List.take_length, hz] at this
      cases this

set_option maxRecDepth 100000 in
theorem rBytes_signs (v : Value) (L : List Nat) (w : World) (hr : Rd w v (zl L)) (hl : L.length ≤ 100000) (hz : L.all isSg = true) :
    Calls Tryd.prog 12 #[v] w fun e w' => e = .returned (if sgs (jn L) == L then .tuple #[.string ⟨(jn L).toArray⟩, .int .i64 0] else .tuple #[.string ⟨#[]⟩, .int .i64 3]) ∧ Below w.heap.size w w' := by
  have hr' := Lib.hid hr
  have hjl := jn_len L
  have hsz : (ByteArray.mk (jn L).toArray).size = (jn L).length := by show (jn L).toArray.size = _; simp
  have hsl := sgs_len _ (jn L) (Nat.le_refl _)
  have C2 := Lib.hid (Join_any v L w hr hl hz)
  have C3 := Lib.hid (fun W => rsigns_any ⟨(jn L).toArray⟩ W (by omega))
  have C4 := Lib.hid (fun (W : World) (u : Value) (h : Rd W u (zl (sgs (jn L)))) (h2 : Rd W v (zl L)) => same_any u v _ _ W h h2 (by simp; omega) (by simp; omega))
  have hzz : Hid (∀ k, k < L.length → isZ (L.getD k 0 : Nat) = true) := Lib.hid (fun k hk => by
    rw [isZ_nat]
    have hm : L.getD k 0 ∈ L := by
      rw [List.getD, List.getElem?_eq_getElem hk]
      exact List.getElem_mem hk
    exact List.all_eq_true.1 hz _ hm)
  have hq := Lib.hid (zl_inj (l := sgs (jn L)) (m := L))
  clear hz hjl hsz hsl
  obtain ⟨A, c, rfl, hc, k2⟩ := hr.nat
  clear hr
  generalize hx : (zl (sgs (jn L)) == zl L) = x at *
  rw [← hq.out]
  clear hx
  cases x
  all_goals
    go_enter Tryd.func12, Tryd.ntmps12
    go_wp2_with fail
    go_loop [4] (fun i => ∃ k : Nat, k ≤ L.length ∧ i = .int .i64 k) (fun i => L.length - (RowKit.intOf i).toNat)
    case atStart => exact ⟨0, Nat.zero_le _, rfl⟩
    case round =>
      obtain ⟨k, hk, rfl⟩ := hrel
      by_cases h : k < L.length
      · obtain ⟨b, o, rfl, hlt, q⟩ := k2 (by omega)
        have x2 := q k h
        have I := IsSign_any (L.getD k 0 : Nat)
        rw [hzz.out k h] at I
        replace I := Lib.hid I
        clear q k2
        generalize L.getD k 0 = x at *
        go_wp2_with (go_at_call 32; (with_reducible refine (I.out _).mono ?_); rintro e w' ⟨rfl, rfl⟩)
        go_round
        case rel => exact ⟨k + 1, by omega, by go_num⟩
        case measure => simp [RowKit.intOf]; omega
      · have hkl : k = L.length := by omega
        subst hkl
        clear k2
        go_wp2_with (first
          | (go_at_call 33; (with_reducible refine C2.out.mono ?_); rintro e w2 ⟨rfl, hb2⟩)
          | (go_at_call 23; (with_reducible refine (C3.out w2).mono ?_); rintro e w3 ⟨u, rfl, hO, hb3⟩)
          | (go_at_call 13; (with_reducible refine (C4.out w3 u (Rd.of_own hO) ((hr'.out.below hb2).below hb3)).mono ?_); rintro e w4 ⟨rfl, hb4⟩))
        go_ret2
        exact ⟨rfl, btr (btr hb2 hb3) hb4⟩
end Go.Proofs.YtcokkmjfdnigpaaDoor
