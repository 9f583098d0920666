
/- The program's reader of rules: a sequence. Conditions stand at each theorem. -/
import Derived.Test.YtmpnblibbcocpaaDoorRulesC
import Derived.Test.YtmpnblibbcocpaaDoorTextB
namespace Go.Proofs.YtmpnblibbcocpaaDoor
open Go.ChangeShapes Go.WideShapes Go.ChangeAt Go.RowKit Go.Lib
set_option linter.unusedVariables false

theorem own_but {w w' : World} {b B e size n : Nat} {v : Value} {xs : List Value} (h : w.ownsRow B e size v n xs) (hb : But b w w') (hB : b < B) : w'.ownsRow B e size v n xs := by
  refine ⟨h.1, ?_⟩
  rcases h.2 with h0 | ⟨g, cap, cur, hv, h1, hg, hr⟩
  · exact .inl h0
  · exact .inr ⟨g, cap, cur, hv, h1, (hb.block g (Array.getElem?_eq_some_iff.1 hg).1 (by omega)).trans hg, hr⟩
theorem Own.but {w w' : World} {b base : Nat} {v : Value} {l : List Nat} (h : Own w base v l) (hb : But b w w') (hB : b < base) : Own w' base v l := by
  rcases h with h | ⟨g, cap, cur, rfl, h1, hg, hn, hc, hs, ht⟩
  · exact .inl h
  · exact .inr ⟨g, cap, cur, rfl, h1, (hb.block g (Array.getElem?_eq_some_iff.1 hg).1 (by omega)).trans hg, hn, hc, hs, ht⟩

theorem fin_some (acc : List Nat) : decide (0 < acc.length) = (finP acc).isSome := by
  unfold finP
  cases acc with
  | nil => rfl
  | cons a l => simp
theorem fin_eq {acc q : List Nat} (h : finP acc = some q) : acc = q := by
  unfold finP at h
  split at h
  · cases h
  · exact Option.some.inj h
theorem retvb {v : Value} {a c : Bool} (h : a = c) : Ending.returned (.tuple #[v, .bool a]) = .returned (.tuple #[v, .bool c]) := by rw [h]
theorem cell_new (w : World) (p : Addr) (v u : Value) (T : TypeId) : ((w.setCell p v).alloc (.cells #[u] T)).cell? ⟨w.heap.size, 0, none⟩ = some u := by
  rw [show w.heap.size = (w.setCell p v).heap.size by simp, World.cell?_alloc_at _ _ _ _ rfl]
  rfl
theorem size_set (w : World) (p : Addr) (v : Value) : (w.setCell p v).heap.size = w.heap.size := by simp

set_option maxHeartbeats 1000000 in
set_option maxRecDepth 100000 in
theorem seq_rd {b : Nat} {lv av : Value} {L : List Nat} {i : Nat} {w : World} (h : St b lv av L i w) :
    Calls Tryd.prog 34 #[pt b] w fun e w' => ∃ (A : Option Addr) (n c k : Nat), e = .returned (.tuple #[.slice A n c, .bool (seqP (blankP (L.drop i)) []).2.isSome]) ∧ L.drop k = (seqP (blankP (L.drop i)) []).1 ∧ St b lv av L k w' ∧ But b w w' ∧
      (∀ q, (seqP (blankP (L.drop i)) []).2 = some q → Own w' w.heap.size (.slice A n c) q) := by
  obtain ⟨i0, hi, hz0, hz1, hz2⟩ := info_parts info3
  have hbase := h.rs.lt
  have BL := Lib.hid (blank_rd h)
  obtain ⟨M0, hM0⟩ : ∃ M0, blankP (L.drop i) = M0 := ⟨_, rfl⟩
  rw [hM0] at BL ⊢
  clear hM0
  go_enter Tryd.func34, Tryd.ntmps34
  go_wp2_with (first
    | (go_at_call 17; (with_reducible refine BL.out.mono ?_); rintro e w1 ⟨rfl, k1, hk1, hs1, hb1⟩; subst hk1)
    | (go_at_call 18; (with_reducible refine (sign_rd hs1).mono ?_); rintro e w2 ⟨rfl, hb2⟩))
  go_loopw [5, 6] (fun v c wr => ∃ k acc, c = .int .i64 (hd (L.drop k)) ∧ St b lv av L k wr ∧ But b w wr ∧ wr.ownsRow w.heap.size 3 1 v acc.length (cl acc) ∧ acc.length ≤ 3 ∧ Hid (seqP (L.drop k1) [] = seqP (L.drop k) acc)) (fun _ _ wr => L.length - ixOf b wr)
  case atStart => exact ⟨k1, [], rfl, hs1.below hb2, hb1.on hb2, World.ownsRow_nil _ _ _ _, by simp, Lib.hid rfl⟩
  case round =>
    obtain ⟨k, acc, rfl, hs, hb, hown, hacc, hq⟩ := hrel
    have hix := hs.rs.ix
    have hbig := hs.big
    have hwb := hb.size
    by_cases hk : k < L.length
    rotate_left
    · -- the end
      rw [hd_end (L := L) (i := k) (by omega)]
      have e1 : L.drop k = [] := List.drop_eq_nil_of_le (by omega)
      rw [e1, seqP_nil] at hq
      obtain ⟨A, c, rfl, hc, hO⟩ := (Own.of_row hown).clip
      have K := Lib.hid (fun W => clip_any A acc.length c W hc)
      clear hown
      go_wp2_with (first
        | (go_at_call 31; refine (K.out _).mono ?_; rintro e w3 ⟨rfl, rfl⟩))
      go_ret2
      rw [hq.out]
      exact ⟨A, acc.length, acc.length, k, retvb (fin_some acc), e1, hs, hb, fun q hh => by rw [fin_eq hh] at hO; exact fin_eq hh ▸ hO⟩
    rw [hd_at hk]
    have hdr := drop_at hk
    rw [hdr] at hq
    obtain ⟨x, hx⟩ : ∃ x, L.getD k 0 = x := ⟨_, rfl⟩
    rw [hx] at hq hdr ⊢
    have x0 : 0 ≤ (x : Int) := by omega
    by_cases hsp : spc x = true
    · -- a sign that ends it
      have SP := special_rd (x : Int)
      have x92 : ((x : Int) == 92) = false := by
        rw [beq_eq_false_iff_ne]
        intro hh
        have : x = 92 := by omega
        subst this
        revert hsp
        decide
      rw [spZ_nat, hsp, Bool.true_or] at SP
      replace SP := Lib.hid SP
      rw [seqP_spc hsp] at hq
      clear hsp hx
      obtain ⟨A, c, rfl, hc, hO⟩ := (Own.of_row hown).clip
      have K := Lib.hid (fun W => clip_any A acc.length c W hc)
      clear hown
      go_wp2_with (first
        | (go_at_call 37; (with_reducible refine (SP.out _).mono ?_); rintro e w' ⟨rfl, rfl⟩)
        | (go_at_call 31; refine (K.out _).mono ?_; rintro e w3 ⟨rfl, rfl⟩))
      go_ret2
      rw [hq.out]
      exact ⟨A, acc.length, acc.length, k, retvb (fin_some acc), hdr, hs, hb, fun q hh => by rw [fin_eq hh] at hO; exact fin_eq hh ▸ hO⟩
    replace hsp : spc x = false := by simpa using hsp
    by_cases h3 : acc.length = 3
    · -- the fourth sign
      have SP := special_rd (x : Int)
      rw [spZ_nat, hsp, Bool.false_or] at SP
      rw [seqP_long hsp h3] at hq
      obtain ⟨A, c, rfl, _, hO⟩ := (Own.of_row hown).clip
      clear hO
      have l3 : (acc.length : Int) = 3 := by omega
      by_cases h92 : x = 92
      · subst h92
        replace SP : Hid (∀ W, Calls Tryd.prog 37 #[.int .i64 92] W fun e w' => e = .returned (.bool true) ∧ W = w') := Lib.hid (fun W => SP W)
        clear hsp hx hown x0
        go_wp2_with (first
          | (go_at_call 37; (with_reducible refine (SP.out _).mono ?_); rintro e w' ⟨rfl, rfl⟩))
        go_ret2
        rw [hq.out]
        exact ⟨none, 0, 0, k, rfl, hdr, hs, hb, fun q hh => by cases hh⟩
      · have e92 : (x == 92) = false := by simpa using h92
        rw [e92] at SP
        replace SP := Lib.hid SP
        clear hsp hx hown e92 h92
        go_wp2_with (first
          | (go_at_call 37; (with_reducible refine (SP.out _).mono ?_); rintro e w' ⟨rfl, rfl⟩))
        go_ret2
        rw [hq.out]
        exact ⟨none, 0, 0, k, rfl, hdr, hs, hb, fun q hh => by cases hh⟩
    obtain ⟨A, c, rfl, _, hO⟩ := (Own.of_row hown).clip
    clear hO
    have l3 : ((acc.length : Int) == 3) = false := by rw [beq_eq_false_iff_ne]; omega
    have hlt3 : acc.length + 1 ≤ 3 := by omega
    have HS := hs.inc hk
    have HB := hb.put 2 (.int .i64 ((k : Int) + 1))
    have c2 := hs.rs.c2
    have f2 := hs.rs.f2
    have OWS := own_but hown (But.set b 2 wr (.int .i64 ((k : Int) + 1))) hbase
    by_cases h92 : x = 92
    · subst h92
      have SP : Hid (∀ W, Calls Tryd.prog 37 #[.int .i64 92] W fun e w' => e = .returned (.bool true) ∧ W = w') := Lib.hid (fun W => special_rd 92 W)
      have C1 := sign_rd HS
      by_cases hk1 : k + 1 < L.length
      · have hdr2 := drop_at hk1
        rw [hd_at hk1] at C1
        rw [hdr2] at hq
        obtain ⟨d, hd0⟩ : ∃ d, L.getD (k + 1) 0 = d := ⟨_, rfl⟩
        rw [hd0] at C1 hq
        rw [seqP_back h3] at hq
        replace C1 := Lib.hid C1
        have d0 : 0 ≤ (d : Int) := by omega
        clear hd0 hdr2 hdr hx hsp hown x0
        go_wp2_with (first
          | (go_at_call 37; (with_reducible refine (SP.out _).mono ?_); rintro e w' ⟨rfl, rfl⟩)
          | (go_at_call 18; (with_reducible refine C1.out.mono ?_); rintro e w5 ⟨rfl, hb5⟩; have HS5 := HS.below hb5; have c5 := HS5.rs.c2; have f5 := HS5.rs.f2; have z5 := hb5.size; rw [size_set] at z5; have OW := own_but (own_below OWS hb5) (But.set b 2 w5 (.int .i64 ((k : Int) + 1 + 1))) hbase)
          | (at_builtin; refine wpList_append_own _ rfl _ _ 33 rfl w.heap.size 3 i0 (.int .i64 0) 1 8 Tryd.underlying33 hi hz0 hz1 hz2 rfl (by decide) _ _ _ rfl (OW.alloc _) ⟨w5.heap.size, 0, none⟩ 1 1 [.int .i64 (d : Nat)] rfl rfl ?c1 ?c2 ?c3 ?c4 ?c5 ?_))
        case c1 =>
          intro j u hj
          match j, hj with
          | 0, hj => simp at hj; subst hj; exact cell_new _ _ _ _ _
        case c2 => intro u hu; simp at hu; subst hu; rfl
        case c3 => unfold maxLen; omega
        case c4 => omega
        case c5 => simp; omega
        intro v' w9 hown' hgrow _
        have hB9 : Below w.heap.size (w5.setCell ⟨b, 2, none⟩ (.int .i64 ((k : Int) + 1 + 1))) w9 := ((Below.refl _ _).alloc (by rw [size_set]; omega) _).grown hgrow (by simp; omega) (fun j hj => by have := (OW.lt j hj).1; omega)
        have HS9 := (HS5.inc hk1).upto hB9 hbase
        have HB9 := ((HB.on hb5).put 2 (.int .i64 ((k : Int) + 1 + 1))).onB hB9
        have C9 := Lib.hid (sign_rd HS9)
        clear hgrow OW hB9
        go_wp2_with (first | (go_at_call 18; (with_reducible refine C9.out.mono ?_); rintro e w10 ⟨rfl, hb10⟩))
        refine ⟨⟨k + 1 + 1, acc ++ [d], rfl, HS9.below hb10, HB9.on hb10, own_below (by simpa [cl] using hown') hb10, by simp; omega, hq⟩, ?_⟩
        rw [(HS9.below hb10).rs.ix, hix]
        omega
      · rw [hd_end (L := L) (i := k + 1) (by omega)] at C1
        rw [List.drop_eq_nil_of_le (show L.length ≤ k + 1 by omega), seqP_end h3] at hq
        replace C1 := Lib.hid C1
        clear hown OWS hsp hx x0
        go_wp2_with (first
          | (go_at_call 37; (with_reducible refine (SP.out _).mono ?_); rintro e w' ⟨rfl, rfl⟩)
          | (go_at_call 18; (with_reducible refine C1.out.mono ?_); rintro e w5 ⟨rfl, hb5⟩))
        go_ret2
        rw [hq.out]
        exact ⟨none, 0, 0, k + 1, rfl, List.drop_eq_nil_of_le (by omega), HS.below hb5, HB.on hb5, fun q hh => by cases hh⟩
    · have e92 : (x == 92) = false := by simpa using h92
      have SP := special_rd (x : Int)
      rw [spZ_nat, hsp, Bool.false_or, e92] at SP
      replace SP := Lib.hid SP
      have x92 : ((x : Int) == 92) = false := by rw [beq_eq_false_iff_ne]; omega
      rw [seqP_sign hsp h3 h92] at hq
      have OW := OWS
      clear hdr hx hsp hown e92 h92 OWS
      go_wp2_with (first
        | (go_at_call 37; (with_reducible refine (SP.out _).mono ?_); rintro e w' ⟨rfl, rfl⟩)
        | (at_builtin; refine wpList_append_own _ rfl _ _ 33 rfl w.heap.size 3 i0 (.int .i64 0) 1 8 Tryd.underlying33 hi hz0 hz1 hz2 rfl (by decide) _ _ _ rfl (OW.alloc _) ⟨wr.heap.size, 0, none⟩ 1 1 [.int .i64 (x : Nat)] rfl rfl ?c1 ?c2 ?c3 ?c4 ?c5 ?_))
      case c1 =>
        intro j u hj
        match j, hj with
        | 0, hj => simp at hj; subst hj; exact cell_new _ _ _ _ _
      case c2 => intro u hu; simp at hu; subst hu; rfl
      case c3 => unfold maxLen; omega
      case c4 => omega
      case c5 => simp; omega
      intro v' w9 hown' hgrow _
      have hB9 : Below w.heap.size (wr.setCell ⟨b, 2, none⟩ (.int .i64 ((k : Int) + 1))) w9 := ((Below.refl _ _).alloc (by rw [size_set]; omega) _).grown hgrow (by simp; omega) (fun j hj => by have := (OW.lt j hj).1; omega)
      have HS9 := HS.upto hB9 hbase
      have HB9 := HB.onB hB9
      have C9 := Lib.hid (sign_rd HS9)
      clear hgrow OW hB9
      go_wp2_with (first | (go_at_call 18; (with_reducible refine C9.out.mono ?_); rintro e w10 ⟨rfl, hb10⟩))
      refine ⟨⟨k + 1, acc ++ [x], rfl, HS9.below hb10, HB9.on hb10, own_below (by simpa [cl] using hown') hb10, by simp; omega, hq⟩, ?_⟩
      rw [(HS9.below hb10).rs.ix, hix]
      omega
end Go.Proofs.YtmpnblibbcocpaaDoor
