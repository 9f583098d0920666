
/- The document's reader of rules: a sequence. Conditions stand at each theorem. -/
import Derived.Test.YtmpnblibbcocpaaDoorRulesQ
import Derived.Lib.QuietBelow
namespace Go.Proofs.YtmpnblibbcocpaaDoor
open Go.ChangeShapes Go.WideShapes Go.ChangeAt Go.RowKit Go.Lib
set_option linter.unusedVariables false

theorem sign_at {s : ByteArray} {k : Nat} (hk : k < s.size) (w : World) : Calls Tryd.prog 35 #[.string (s.extract k s.size)] w fun e w' => e = .returned (.tuple #[.int .i64 (sg ((bl s).drop k)).1, .int .i64 (sg ((bl s).drop k)).2]) ∧ Below w.heap.size w w' := by
  have h := rsign_any (s.extract k s.size) w (by rw [ByteArray.size_extract]; omega)
  rwa [bl_extract] at h
theorem sg_fits {s : ByteArray} {k : Nat} (hk : k < s.size) : 1 ≤ (sg ((bl s).drop k)).2 ∧ k + (sg ((bl s).drop k)).2 ≤ s.size := by
  refine ⟨sg_pos _, ?_⟩
  have := sg_le _ (drop_ne hk)
  rw [List.length_drop, bl_len] at this
  omega
theorem sg_92 {s : ByteArray} {k : Nat} (hk : k < s.size) (h : (sg ((bl s).drop k)).1 = 92) : (sg ((bl s).drop k)).2 = 1 := by
  rcases sg_byte hk with ⟨_, e⟩ | ⟨_, h2⟩
  · rw [e]
  · omega
theorem slice_from (s : ByteArray) (k : Nat) (h : k ≤ s.size) (W : World) : (Instr.slice 9 (.string s) (some (.int .i64 (k : Int))) none none).run Tryd.prog W = .ok (.string (s.extract k s.size)) W := by
  have i1 : (k : Int) ≤ (s.size : Int) := by omega
  have i0 : 0 ≤ (k : Int) := by omega
  go_simp
theorem row_slice1 {w : World} {B e n : Nat} {v : Value} {l : List Nat} (h : w.ownsRow B e 1 v n (cl l)) : ∃ A c, v = .slice A n c ∧ n = l.length := by
  have hl : l.length = n := by simpa [cl] using h.1
  rcases h.2 with ⟨rfl, rfl⟩ | ⟨g, cap, cur, rfl, h1, hg, hr⟩
  · exact ⟨none, 0, rfl, hl.symm⟩
  · exact ⟨_, _, rfl, hl.symm⟩

set_option maxHeartbeats 2000000 in
set_option maxRecDepth 100000 in
theorem seq_rf {b : Nat} {s : ByteArray} {i : Nat} {w : World} (h : T2 b s i w) :
    Calls Tryd.prog 23 #[pt b] w fun e w' => ∃ (A : Option Addr) (n c k : Nat), e = .returned (.tuple #[.slice A n c, .bool (seqP (blankP (rest s i)) []).2.isSome]) ∧ rest s k = (seqP (blankP (rest s i)) []).1 ∧ T2 b s k w' ∧ But b w w' ∧
      (∀ q, (seqP (blankP (rest s i)) []).2 = some q → Own w' w.heap.size (.slice A n c) q) := by
  obtain ⟨i0, hi, hz0, hz1, hz2⟩ := info_parts info3
  have hbase := h.lt
  have hbig := h.big
  have BL := Lib.hid (blank_rf h)
  obtain ⟨M0, hM0⟩ : ∃ M0, blankP (rest s i) = M0 := ⟨_, rfl⟩
  rw [hM0] at BL ⊢
  clear hM0
  go_enter Tryd.func23, Tryd.ntmps23
  go_wp2_with (first
    | (go_at_call 21; (with_reducible refine BL.out.mono ?_); rintro e w1 ⟨rfl, k1, hk1, hs1, hb1⟩; subst hk1))
  go_loopw [4] (fun v wr => ∃ k acc, T2 b s k wr ∧ But b w wr ∧ wr.ownsRow w.heap.size 3 1 v acc.length (cl acc) ∧ acc.length ≤ 3 ∧ Hid (seqP (rest s k1) [] = seqP (rest s k) acc)) (fun _ wr => s.size - ix2 b wr)
  case atStart => exact ⟨k1, [], hs1, hb1, World.ownsRow_nil _ _ _ _, by simp, Lib.hid rfl⟩
  case round =>
    obtain ⟨k, acc, hs, hb, hown, hacc, hq⟩ := hrel
    have hix := hs.ix
    have c0 := hs.c0
    have c1 := hs.c1
    obtain ⟨A, c, rfl, _⟩ := row_slice1 hown
    have i0' : 0 ≤ (k : Int) := by omega
    have z1 := fun n => below_drewN wr n
    by_cases hk : k < s.size
    rotate_left
    · -- the end
      have i1 : ¬ (k : Int) < (s.size : Int) := by omega
      rw [rest_end (s := s) (i := k) (by omega), seqP_nil] at hq
      go_wp2
      go_quiet (fail)
      go_wp2
      go_ret2
      rw [hq.out]
      exact ⟨A, acc.length, c, k, retvb (fin_some acc), rest_end (by omega), hs.below (z1 nq), hb.on (z1 nq), fun q hh => fin_eq hh ▸ (Own.of_row hown).below (z1 nq)⟩
    have i1 : (k : Int) < (s.size : Int) := by omega
    have i2 : (k : Int) ≤ (s.size : Int) := by omega
    have C := Lib.hid (fun W => sign_at hk W)
    obtain ⟨hn1, hn2⟩ := sg_fits hk
    have hr := rest_step hk
    have h92n := sg_92 hk
    rw [hr] at hq
    obtain ⟨x, hx⟩ : ∃ x, (sg ((bl s).drop k)).1 = x := ⟨_, rfl⟩
    obtain ⟨n, hn⟩ : ∃ n, (sg ((bl s).drop k)).2 = n := ⟨_, rfl⟩
    rw [hx] at C hq hr h92n
    rw [hn] at C hq hn1 hn2 hr h92n
    clear hx hn
    go_wp2
    go_quiet (fail)
    have hs1' := hs.below (z1 nq)
    have hb1' := hb.on (z1 nq)
    have hown1 := own_below hown (z1 nq)
    generalize wr.drewN nq = W1 at *
    clear c0 c1 hs hb hown z1
    have c0 := cell_regrown hs1'.c0
    have c1 := cell_regrown hs1'.c1
    go_wp2
    refine wp_region_quiet_below (by kernel_rfl) (by kernel_rfl) ?_
    repeat (quiet_step (first | (with_reducible exact Calls.regrown_of (C.out _))))
    refine wpQuiet_nil ?_
    intro _ hw'
    obtain ⟨⟨dq, osq⟩, hw''⟩ := hw'
    subst hw''
    have z2 := below_regrown W1 dq osq
    generalize Sort.grow (redrawn W1 dq) osq = W2 at *
    have hs2 := hs1'.below z2
    have hb2 := hb1'.on z2
    have hown2 := own_below hown1 z2
    have hsz2 := Nat.le_trans hb1'.size z2.size
    clear hs1' hb1' hown1 z2 c0 c1
    have c0 := hs2.c0
    have c1 := hs2.c1
    have f1 := hs2.f1
    obtain ⟨SPv, hSPv⟩ : ∃ SPv, SPv = special_rf (x : Int) := ⟨_, rfl⟩
    have SP := special_rf (x : Int)
    rw [spR_nat] at SP
    clear hSPv SPv
    by_cases hsp : spc x = true
    · rw [hsp] at SP
      replace SP := Lib.hid SP
      rw [seqP_spc hsp] at hq
      clear hsp h92n
      go_wp2_with (first
        | (go_at_call 36; (with_reducible refine (SP.out _).mono ?_); rintro e w' ⟨rfl, rfl⟩))
      go_ret2
      rw [hq.out]
      exact ⟨A, acc.length, c, k, retvb (fin_some acc), hr, hs2, hb2, fun q hh => fin_eq hh ▸ Own.of_row hown2⟩
    replace hsp : spc x = false := by simpa using hsp
    rw [hsp] at SP
    replace SP := Lib.hid SP
    by_cases h3 : acc.length = 3
    · have l3 : ((acc.length : Int) == 3) = true := by rw [beq_iff_eq]; omega
      rw [seqP_long hsp h3] at hq
      replace h3 := Lib.hid h3
      clear hsp h92n
      go_wp2_with (first
        | (go_at_call 36; (with_reducible refine (SP.out _).mono ?_); rintro e w' ⟨rfl, rfl⟩))
      go_ret2
      rw [hq.out]
      exact ⟨none, 0, 0, k, rfl, hr, hs2, hb2, fun q hh => by cases hh⟩
    have l3 : ((acc.length : Int) == 3) = false := by rw [beq_eq_false_iff_ne]; omega
    have hlt3 : acc.length + 1 ≤ 3 := by omega
    by_cases h92 : x = 92
    · subst h92
      obtain rfl := h92n rfl
      clear hsp h92n
      replace SP : Hid (∀ W, Calls Tryd.prog 36 #[.int .i64 92] W fun e w' => e = .returned (.bool false) ∧ W = w') := SP
      by_cases hk1 : k + 1 < s.size
      · have j1 : ¬ (s.size : Int) ≤ (k : Int) + 1 := by omega
        have j2 : (k : Int) + 1 < (s.size : Int) := by omega
        have j3 : (k : Int) + 1 ≤ (s.size : Int) := by omega
        have j4 : 0 ≤ (k : Int) + 1 := by omega
        have hw : IntKind.i64.wrap ((k : Int) + 1) = (k : Int) + 1 := by rw [IntKind.wrap_i64]; omega
        have HL : ∀ W, (Instr.slice 9 (.string s) (some (.int .i64 ((k : Int) + 1))) none none).run Tryd.prog W = .ok (.string (s.extract (k + 1) s.size)) W := fun W => by
          have := slice_from s (k + 1) (by omega) W
          rwa [show ((k + 1 : Nat) : Int) = (k : Int) + 1 by omega] at this
        have C2 := Lib.hid (fun W => sign_at hk1 W)
        obtain ⟨hm1, hm2⟩ := sg_fits hk1
        rw [rest_step hk1] at hq
        obtain ⟨d, hd0⟩ : ∃ d, (sg ((bl s).drop (k + 1))).1 = d := ⟨_, rfl⟩
        obtain ⟨m, hm⟩ : ∃ m, (sg ((bl s).drop (k + 1))).2 = m := ⟨_, rfl⟩
        rw [hd0] at C2 hq
        rw [hm] at C2 hq hm1 hm2
        rw [seqP_back h3, show k + 1 + m = k + (1 + m) by omega] at hq
        clear hd0 hm
        go_wp2_with (first
          | (go_at_call 36; (with_reducible refine (SP.out _).mono ?_); rintro e w' ⟨rfl, rfl⟩))
        go_quiet (fail)
        have z3 := below_drewN W2 nq
        have hs3 := hs2.below z3
        have hb3 := hb2.on z3
        have hown3 := own_below hown2 z3
        have hsz3 := Nat.le_trans hsz2 z3.size
        generalize W2.drewN nq = W3 at *
        clear z3 hs2 hb2 hown2 c0 c1 f1
        have c0 := cell_regrown hs3.c0
        have c1 := cell_regrown hs3.c1
        go_wp2
        refine wp_region_quiet_below (by kernel_rfl) (by kernel_rfl) ?_
        repeat (quiet_step (first | (with_reducible exact Calls.regrown_of (C2.out _))))
        refine wpQuiet_nil ?_
        intro _ hw'
        obtain ⟨⟨dq, osq⟩, hw''⟩ := hw'
        subst hw''
        have z4 := below_regrown W3 dq osq
        generalize Sort.grow (redrawn W3 dq) osq = W4 at *
        have hs4 := hs3.below z4
        have hb4 := hb3.on z4
        have hown4 := own_below hown3 z4
        have hsz4 := Nat.le_trans hsz3 z4.size
        clear hs3 hb3 hown3 z4 c0 c1
        have c0 := hs4.c0
        have c1 := hs4.c1
        have f1 := hs4.f1
        go_wp2_with (first
            | (at_builtin; refine wpList_append_own _ rfl _ _ 33 rfl w.heap.size 3 i0 (.int .i64 0) 1 8 Tryd.underlying33 hi hz0 hz1 hz2 rfl (by decide) _ _ _ rfl (hown4.alloc _) ⟨W4.heap.size, 0, none⟩ 1 1 [.int .i64 (d : Nat)] rfl rfl (one_new _ _ _) (one_int _) ?c3 ?c4 ?c5 ?_))
        case c3 => first | (unfold maxLen; omega) | omega
        case c4 => omega
        case c5 => first | omega | (simp; omega)
        intro v' w9 hown' hgrow _
        have hB9 : Below w.heap.size W4 w9 := ((Below.refl _ _).alloc (by omega) _).grown hgrow (by simp; omega) (fun j hj => by have := (hown4.lt j hj).1; omega)
        have hs9 := hs4.upto hB9 hbase
        have hb9 := hb4.onB hB9
        have d1 := hs9.c1
        have g1 := hs9.f1
        have hle9 := hs9.le
        have q2 : 0 ≤ (k : Int) + (1 + (m : Int)) := by omega
        have q5 : (k : Int) + (1 + (m : Int)) ≤ 100000 := by omega
        clear hgrow hB9 c0 c1 f1
        go_wp2
        refine ⟨⟨k + (1 + m), acc ++ [d], hs9.set (by omega) (by omega), hb9.put _ _, own_but (by simpa [cl] using hown') (But.set b 1 w9 _) hbase, by simp; omega, hq⟩, ?_⟩
        rw [(hs9.set (j := k + (1 + m)) (by omega) (by omega)).ix, hix]
        omega
      · have j1 : (s.size : Int) ≤ (k : Int) + 1 := by omega
        rw [rest_end (s := s) (i := k + 1) (by omega), seqP_end h3] at hq
        go_wp2_with (first
          | (go_at_call 36; (with_reducible refine (SP.out _).mono ?_); rintro e w' ⟨rfl, rfl⟩))
        go_quiet (fail)
        have z3 := below_drewN W2 nq
        have hs3 := hs2.below z3
        have hb3 := hb2.on z3
        generalize W2.drewN nq = W3 at *
        clear c0 c1 f1
        have c0 := hs3.c0
        have c1 := hs3.c1
        have f1 := hs3.f1
        go_wp2
        go_ret2
        rw [hq.out]
        exact ⟨none, 0, 0, k + 1, rfl, rest_end (by omega), hs3.set (by omega) (by omega), hb3.put _ _, fun q hh => by cases hh⟩
    · have x92 : ((x : Int) == 92) = false := by rw [beq_eq_false_iff_ne]; omega
      rw [seqP_sign hsp h3 h92] at hq
      clear hsp h92n h92
      go_wp2_with (first
        | (go_at_call 36; (with_reducible refine (SP.out _).mono ?_); rintro e w' ⟨rfl, rfl⟩)
        | (at_builtin; refine wpList_append_own _ rfl _ _ 33 rfl w.heap.size 3 i0 (.int .i64 0) 1 8 Tryd.underlying33 hi hz0 hz1 hz2 rfl (by decide) _ _ _ rfl (hown2.alloc _) ⟨W2.heap.size, 0, none⟩ 1 1 [.int .i64 (x : Nat)] rfl rfl (one_new _ _ _) (one_int _) ?c3 ?c4 ?c5 ?_))
      case c3 => first | (unfold maxLen; omega) | omega
      case c4 => omega
      case c5 => first | omega | (simp; omega)
      intro v' w9 hown' hgrow _
      have hB9 : Below w.heap.size W2 w9 := ((Below.refl _ _).alloc (by omega) _).grown hgrow (by simp; omega) (fun j hj => by have := (hown2.lt j hj).1; omega)
      have hs9 := hs2.upto hB9 hbase
      have hb9 := hb2.onB hB9
      have d1 := hs9.c1
      have g1 := hs9.f1
      have hle9 := hs9.le
      have q2 : 0 ≤ (k : Int) + (n : Int) := by omega
      have q5 : (k : Int) + (n : Int) ≤ 100000 := by omega
      clear hgrow hB9 c0 c1 f1
      go_wp2
      refine ⟨⟨k + n, acc ++ [x], hs9.set (by omega) (by omega), hb9.put _ _, own_but (by simpa [cl] using hown') (But.set b 1 w9 _) hbase, by simp; omega, hq⟩, ?_⟩
      rw [(hs9.set (j := k + n) (by omega) (by omega)).ix, hix]
      omega
end Go.Proofs.YtmpnblibbcocpaaDoor
