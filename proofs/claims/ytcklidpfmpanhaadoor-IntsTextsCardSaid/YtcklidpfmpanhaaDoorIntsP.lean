/- The document's reading of a text as a number: what it returns for every text up to 1000 bytes. -/
import Derived.Test.YtcklidpfmpanhaaDoorIntsT
namespace Go.Proofs.YtcklidpfmpanhaaDoor
open Go.ChangeShapes Go.WideShapes Go.ChangeAt Go.RowKit
set_option linter.unusedVariables false

abbrev bl (s : ByteArray) : List UInt8 := s.data.toList
theorem bl_len (s : ByteArray) : (bl s).length = s.size := by simp [bl]
theorem bl_at {s : ByteArray} {i : Nat} (h : i < s.size) : (bl s).getD i 0 = s[i]'h := by
  have h' : i < s.data.toList.length := by simpa using h
  simp only [bl, List.getD, List.getElem?_eq_getElem h', Option.getD_some]
  rfl
theorem str_nil (t : ByteArray) : t.toList.isEmpty = decide (t.size = 0) := by
  rw [ByteArray.toList_eq, Bool.eq_iff_iff, List.isEmpty_iff, decide_eq_true_eq]
  have h := bl_len t
  constructor
  · intro e
    rw [← h]
    show t.data.toList.length = 0
    rw [e]
    rfl
  · intro e
    exact List.eq_nil_of_length_eq_zero (by rw [← e]; exact h)
/-- a number and its sign -/
def sgd (b : Bool) (n : Nat) : Int := if b then -(n : Int) else n
theorem sgd_fits {b : Bool} {m n : Nat} (h : m ≤ n) (hf : fits (sgd b n) = true) : fits (sgd b m) = true := by
  unfold sgd at *
  rw [fits_iff] at *
  cases b <;> simp at * <;> omega
theorem all_take {l : List UInt8} {k : Nat} (h : k < l.length) : (l.take (k + 1)).all isDg = ((l.take k).all isDg && isDg (l.getD k 0)) := by
  rw [List.take_succ_eq_append_getElem h, List.all_append]
  simp [List.getD, h]
theorem all_no {l : List UInt8} {k : Nat} (h : k < l.length) (hd : isDg (l.getD k 0) = false) : l.all isDg = false := by
  rw [Bool.eq_false_iff]
  intro hh
  rw [List.all_eq_true] at hh
  have := hh (l.getD k 0) (by simp [List.getD, h])
  rw [this] at hd
  cases hd

-- WALKS
theorem num_of {l d : List UInt8} {b : Bool} (h1 : negB l = b) (h2 : restB l = d) : numOk l = (!d.isEmpty && d.all isDg) ∧ numX l = sgd b (nv 0 d) := by
  subst h1 h2
  exact ⟨rfl, by unfold numX sgd; rfl⟩
theorem num_no {l d : List UInt8} {b : Bool} (h1 : negB l = b) (h2 : restB l = d) (h : d.isEmpty = true ∨ d.all isDg = false) : numV l = 0 ∧ numE l = 3 := by
  have e := (num_of h1 h2).1
  have e0 : numOk l = false := by
    rw [e]
    rcases h with h | h <;> simp [h]
  unfold numV numE
  simp [e0]
theorem num_big {l d : List UInt8} {b : Bool} (h1 : negB l = b) (h2 : restB l = d) (h3 : d.isEmpty = false) (h4 : d.all isDg = true) (h : fits (sgd b (nv 0 d)) = false) : numV l = 0 ∧ numE l = 17 := by
  obtain ⟨e, ex⟩ := num_of h1 h2
  have e0 : numOk l = true := by rw [e, h3, h4]; rfl
  unfold numV numE
  rw [if_pos e0, if_pos e0, ex, val1_no h, err1_no h]
  exact ⟨rfl, rfl⟩
theorem num_yes {l d : List UInt8} {b : Bool} (h1 : negB l = b) (h2 : restB l = d) (h3 : d.isEmpty = false) (h4 : d.all isDg = true) (h : fits (sgd b (nv 0 d)) = true) : numV l = sgd b (nv 0 d) ∧ numE l = 0 := by
  obtain ⟨e, ex⟩ := num_of h1 h2
  have e0 : numOk l = true := by rw [e, h3, h4]; rfl
  unfold numV numE
  rw [if_pos e0, if_pos e0, ex, val1_yes h, err1_yes h]
  exact ⟨rfl, rfl⟩
theorem dg_at {l : List UInt8} {k : Nat} (h : k < l.length) (ha : l.all isDg = true) : 48 ≤ (l.getD k 0).toNat ∧ (l.getD k 0).toNat ≤ 57 := by
  rw [List.all_eq_true] at ha
  have := ha (l.getD k 0) (by simp [List.getD, h])
  simpa [isDg] using this

set_option maxHeartbeats 800000 in
set_option maxRecDepth 100000 in
theorem rparse_pos (s : ByteArray) (w : World) (hs : s.size ≤ 1000) (hn : negB (bl s) = false) (h0 : s.size = 0 ∨ ∃ h : 0 < s.size, ((s[0]'h).toNat : Int) ≠ 45) :
    Calls Tryd.prog 46 #[.string s] w fun e w' => e = .returned (.tuple #[.int .i64 (numV (bl s)), .int .i64 (numE (bl s))]) ∧ w = w' := by
  have hd : restB (bl s) = bl s := by
    unfold restB
    rw [hn]
    rfl
  have HN := fun h => num_no hn hd h
  have HB := fun h3 h4 h => num_big hn hd h3 h4 h
  have HY := fun h3 h4 h => num_yes hn hd h3 h4 h
  replace HN := Lib.hid HN
  replace HB := Lib.hid HB
  replace HY := Lib.hid HY
  clear hd hn
  rcases h0 with h0 | ⟨h0, hc0⟩
  · have hnil := str_nil s
    rw [decide_eq_true h0] at hnil
    have he : (bl s).isEmpty = true := by
      rw [List.isEmpty_iff]
      exact List.eq_nil_of_length_eq_zero (by rw [bl_len]; exact h0)
    have e := HN.out (.inl he)
    have e1 := Lib.hid e.1
    have e2 := Lib.hid e.2
    clear e he HN HB HY
    go_enter Tryd.func46, Tryd.ntmps46
    go_wp2_with fail
    go_loop [5] (fun i => i = .int .i64 0) (fun _ => 0)
    case atStart => rfl
    case round =>
      subst hrel
      go_wp2
      go_ret2
      exact ⟨ret2 e1.out.symm e2.out.symm, rfl⟩
  · have G : (((s[0]'h0).toNat : Int) == 45) = false := by simpa using hc0
    clear hc0
    go_enter Tryd.func46, Tryd.ntmps46
    go_wp2_with fail
    go_loop [5] (fun i => ∃ k : Nat, k ≤ s.size ∧ i = .int .i64 k ∧ Hid (((bl s).take k).all isDg = true)) (fun i => s.size - (intOf i).toNat)
    case atStart => exact ⟨0, Nat.zero_le _, rfl, Lib.hid (by simp)⟩
    case round =>
      obtain ⟨k, hk, rfl, ha⟩ := hrel
      by_cases hlt : k < s.size
      · have hl : k < (bl s).length := by rw [bl_len]; exact hlt
        have hat := bl_at hlt
        by_cases hdg : isDg ((bl s).getD k 0) = true
        · have hnx := Lib.hid ((all_take hl).trans (by rw [ha.out, hdg]))
          rw [hat] at hdg
          simp only [isDg, decide_eq_true_eq] at hdg
          obtain ⟨d1, d2⟩ := hdg
          have i1 : (48 : Int) ≤ ((s[k]'hlt).toNat : Int) := by omega
          have i2 : ((s[k]'hlt).toNat : Int) ≤ 57 := by omega
          clear hat hl d1 d2
          go_wp2
          go_round
          case rel => exact ⟨k + 1, by omega, by go_num, hnx⟩
          case measure => simp [intOf]; omega
        · have e := HN.out (.inr (all_no hl (by simpa using hdg)))
          have e1 := Lib.hid e.1
          have e2 := Lib.hid e.2
          rw [hat] at hdg
          simp only [isDg, decide_eq_true_eq] at hdg
          clear hat hl e
          by_cases d1 : ((s[k]'hlt).toNat : Int) < 48
          · go_wp2
            go_ret2
            exact ⟨ret2 e1.out.symm e2.out.symm, rfl⟩
          · have d2 : (57 : Int) < ((s[k]'hlt).toNat : Int) := by omega
            go_wp2
            go_ret2
            exact ⟨ret2 e1.out.symm e2.out.symm, rfl⟩
      · have hkk : k = s.size := by omega
        have hall : (bl s).all isDg = true := by
          have := ha.out
          rw [List.take_of_length_le (by rw [bl_len]; omega)] at this
          exact this
        have hnil := str_nil s
        by_cases hz : s.size = 0
        · have he : (bl s).isEmpty = true := by
            rw [List.isEmpty_iff]
            exact List.eq_nil_of_length_eq_zero (by rw [bl_len]; exact hz)
          have e := HN.out (.inl he)
          have e1 := Lib.hid e.1
          have e2 := Lib.hid e.2
          rw [decide_eq_true hz] at hnil
          clear e he hall hkk ha
          go_wp2
          all_goals go_ret2
          all_goals exact ⟨ret2 e1.out.symm e2.out.symm, rfl⟩
        · have he : (bl s).isEmpty = false := by
            rw [Bool.eq_false_iff]
            intro h
            rw [List.isEmpty_iff] at h
            have := bl_len s
            rw [h] at this
            exact hz this.symm
          rw [decide_eq_false hz] at hnil
          replace HB := Lib.hid (HB.out he hall)
          replace HY := Lib.hid (HY.out he hall)
          have hall' := Lib.hid hall
          have hll := Lib.hid (bl_len s)
          clear he ha HN hkk hall
          go_wp2_with fail
          go_loop [6, 7] (fun x i => ∃ j : Nat, j ≤ s.size ∧ i = .int .i64 j ∧ ∃ X : Int, x = .int .i64 X ∧ Hid (X = sgd false (nv 0 ((bl s).take j)) ∧ fits X = true)) (fun _ i => s.size - (intOf i).toNat)
          case atStart => exact ⟨0, Nat.zero_le _, rfl, 0, rfl, Lib.hid ⟨by rw [List.take_zero, nv_nil]; rfl, by decide +kernel⟩⟩
          case round =>
            obtain ⟨j, hj, rfl, X, rfl, hX⟩ := hrel
            by_cases hlj : j < s.size
            · have hl : j < (bl s).length := by rw [hll.out]; exact hlj
              have hat := bl_at hlj
              have hstep := nv_take_step hl
              have hle := nv_take (bl s) (j + 1) 0
              obtain ⟨d1, d2⟩ := dg_at hl hall'.out
              rw [hat] at d1 d2 hstep
              obtain ⟨hXe, hXf⟩ := hX.out
              have i1 : (48 : Int) ≤ ((s[j]'hlj).toNat : Int) := by omega
              have i2 : ((s[j]'hlj).toNat : Int) ≤ 57 := by omega
              have C := rmul_any X 10 w hXf (by decide +kernel)
              cases hf : fits (X * 10)
              · rw [val1_no hf, err1_no hf] at C
                have hbig : fits (sgd false (nv 0 (bl s))) = false := by
                  cases h : fits (sgd false (nv 0 (bl s)))
                  · rfl
                  · have := sgd_fits (m := nv 0 ((bl s).take j) * 10) (by omega) h
                    have e : sgd false (nv 0 ((bl s).take j) * 10) = X * 10 := by rw [hXe]; unfold sgd; simp <;> omega
                    rw [e, hf] at this
                    cases this
                have e := HB.out hbig
                have e1 := Lib.hid e.1
                have e2 := Lib.hid e.2
                replace C := Lib.hid C
                clear e hbig hf hXe hXf hX d1 d2 hstep hle hat hl
                go_wp2_with (go_at_call 42; (with_reducible refine C.out.mono ?_); rintro e w' ⟨rfl, rfl⟩)
                go_ret2
                exact ⟨ret2 e1.out.symm e2.out.symm, rfl⟩
              · rw [val1_yes hf, err1_yes hf] at C
                have hd10 : fits ((((s[j]'hlj).toNat : Int) - 48)) = true := fits_mk (by omega) (by omega)
                have C2 := radd_any (X * 10) ((((s[j]'hlj).toNat : Int) - 48)) w hf hd10
                have hnew : X * 10 + (((s[j]'hlj).toNat : Int) - 48) = sgd false (nv 0 ((bl s).take (j + 1))) := by
                  rw [hXe, hstep]
                  unfold sgd
                  simp <;> omega
                cases hf2 : fits (X * 10 + (((s[j]'hlj).toNat : Int) - 48))
                · rw [val1_no hf2, err1_no hf2] at C2
                  have hbig : fits (sgd false (nv 0 (bl s))) = false := by
                    cases h : fits (sgd false (nv 0 (bl s)))
                    · rfl
                    · have := sgd_fits hle h
                      rw [← hnew, hf2] at this
                      cases this
                  have e := HB.out hbig
                  have e1 := Lib.hid e.1
                  have e2 := Lib.hid e.2
                  replace C := Lib.hid C
                  replace C2 := Lib.hid C2
                  clear e hbig hf hf2 hnew hd10 hXe hXf hX d1 d2 hstep hle hat hl
                  go_wp2_with (first | (go_at_call 42; (with_reducible refine C.out.mono ?_); rintro e w' ⟨rfl, rfl⟩) | (go_at_call 30; (with_reducible refine C2.out.mono ?_); rintro e w' ⟨rfl, rfl⟩))
                  go_ret2
                  exact ⟨ret2 e1.out.symm e2.out.symm, rfl⟩
                · rw [val1_yes hf2, err1_yes hf2] at C2
                  have hX2 := Lib.hid (And.intro hnew hf2)
                  replace C := Lib.hid C
                  replace C2 := Lib.hid C2
                  clear hf hf2 hnew hd10 hXe hXf hX d1 d2 hstep hle hat hl
                  go_wp2_with (first | (go_at_call 42; (with_reducible refine C.out.mono ?_); rintro e w' ⟨rfl, rfl⟩) | (go_at_call 30; (with_reducible refine C2.out.mono ?_); rintro e w' ⟨rfl, rfl⟩))
                  go_round
                  case rel => exact ⟨j + 1, by omega, by go_num, _, rfl, hX2⟩
                  case measure => simp [intOf]; omega
            · have hjj : j = s.size := by omega
              obtain ⟨hXe, hXf⟩ := hX.out
              rw [List.take_of_length_le (by rw [hll.out]; omega)] at hXe
              rw [hXe] at hXf
              have e := HY.out hXf
              have e1 := Lib.hid (hXe.trans e.1.symm)
              have e2 := Lib.hid e.2
              clear e hXe hXf hX hjj
              go_wp2
              go_ret2
              exact ⟨ret2 e1.out e2.out.symm, rfl⟩

set_option maxHeartbeats 800000 in
set_option maxRecDepth 100000 in
theorem rparse_neg (s : ByteArray) (w : World) (hs : s.size ≤ 1000) (hn : negB (bl s) = true) (h0 : 0 < s.size) (hc0 : (s[0]'h0).toNat = 45) :
    Calls Tryd.prog 46 #[.string s] w fun e w' => e = .returned (.tuple #[.int .i64 (numV (bl s)), .int .i64 (numE (bl s))]) ∧ w = w' := by
  have hd : restB (bl s) = bl (s.extract 1 s.size) := by
    unfold restB
    rw [hn, if_pos rfl]
    show _ = (s.extract 1 s.size).data.toList
    rw [Lib.extract_to_end]
  have hts : (s.extract 1 s.size).size ≤ 1000 := by simp <;> omega
  have G : ((s[0]'h0).toNat : Int) = 45 := by omega
  have HN := fun h => num_no hn hd h
  have HB := fun h3 h4 h => num_big hn hd h3 h4 h
  have HY := fun h3 h4 h => num_yes hn hd h3 h4 h
  replace HN := Lib.hid HN
  replace HB := Lib.hid HB
  replace HY := Lib.hid HY
  clear hd hn
  go_enter Tryd.func46, Tryd.ntmps46
  go_wp2_with fail
  generalize s.extract 1 s.size = t at *
  go_loop [5] (fun i => ∃ k : Nat, k ≤ t.size ∧ i = .int .i64 k ∧ Hid (((bl t).take k).all isDg = true)) (fun i => t.size - (intOf i).toNat)
  case atStart => exact ⟨0, Nat.zero_le _, rfl, Lib.hid (by simp)⟩
  case round =>
    obtain ⟨k, hk, rfl, ha⟩ := hrel
    by_cases hlt : k < t.size
    · have hl : k < (bl t).length := by rw [bl_len]; exact hlt
      have hat := bl_at hlt
      by_cases hdg : isDg ((bl t).getD k 0) = true
      · have hnx := Lib.hid ((all_take hl).trans (by rw [ha.out, hdg]))
        rw [hat] at hdg
        simp only [isDg, decide_eq_true_eq] at hdg
        obtain ⟨d1, d2⟩ := hdg
        have i1 : (48 : Int) ≤ ((t[k]'hlt).toNat : Int) := by omega
        have i2 : ((t[k]'hlt).toNat : Int) ≤ 57 := by omega
        clear hat hl d1 d2
        go_wp2
        go_round
        case rel => exact ⟨k + 1, by omega, by go_num, hnx⟩
        case measure => simp [intOf]; omega
      · have e := HN.out (.inr (all_no hl (by simpa using hdg)))
        have e1 := Lib.hid e.1
        have e2 := Lib.hid e.2
        rw [hat] at hdg
        simp only [isDg, decide_eq_true_eq] at hdg
        clear hat hl e
        by_cases d1 : ((t[k]'hlt).toNat : Int) < 48
        · go_wp2
          go_ret2
          exact ⟨ret2 e1.out.symm e2.out.symm, rfl⟩
        · have d2 : (57 : Int) < ((t[k]'hlt).toNat : Int) := by omega
          go_wp2
          go_ret2
          exact ⟨ret2 e1.out.symm e2.out.symm, rfl⟩
    · have hkk : k = t.size := by omega
      have hall : (bl t).all isDg = true := by
        have := ha.out
        rw [List.take_of_length_le (by rw [bl_len]; omega)] at this
        exact this
      have hnil := str_nil t
      by_cases hz : t.size = 0
      · have he : (bl t).isEmpty = true := by
          rw [List.isEmpty_iff]
          exact List.eq_nil_of_length_eq_zero (by rw [bl_len]; exact hz)
        have e := HN.out (.inl he)
        have e1 := Lib.hid e.1
        have e2 := Lib.hid e.2
        rw [decide_eq_true hz] at hnil
        clear e he hall hkk ha
        go_wp2
        all_goals go_ret2
        all_goals exact ⟨ret2 e1.out.symm e2.out.symm, rfl⟩
      · have he : (bl t).isEmpty = false := by
          rw [Bool.eq_false_iff]
          intro h
          rw [List.isEmpty_iff] at h
          have := bl_len t
          rw [h] at this
          exact hz this.symm
        rw [decide_eq_false hz] at hnil
        replace HB := Lib.hid (HB.out he hall)
        replace HY := Lib.hid (HY.out he hall)
        have hall' := Lib.hid hall
        have hll := Lib.hid (bl_len t)
        clear he ha HN hkk hall
        go_wp2_with fail
        go_loop [6, 7] (fun x i => ∃ j : Nat, j ≤ t.size ∧ i = .int .i64 j ∧ ∃ X : Int, x = .int .i64 X ∧ Hid (X = sgd true (nv 0 ((bl t).take j)) ∧ fits X = true)) (fun _ i => t.size - (intOf i).toNat)
        case atStart => exact ⟨0, Nat.zero_le _, rfl, 0, rfl, Lib.hid ⟨by rw [List.take_zero, nv_nil]; rfl, by decide +kernel⟩⟩
        case round =>
          obtain ⟨j, hj, rfl, X, rfl, hX⟩ := hrel
          by_cases hlj : j < t.size
          · have hl : j < (bl t).length := by rw [hll.out]; exact hlj
            have hat := bl_at hlj
            have hstep := nv_take_step hl
            have hle := nv_take (bl t) (j + 1) 0
            obtain ⟨d1, d2⟩ := dg_at hl hall'.out
            rw [hat] at d1 d2 hstep
            obtain ⟨hXe, hXf⟩ := hX.out
            have i1 : (48 : Int) ≤ ((t[j]'hlj).toNat : Int) := by omega
            have i2 : ((t[j]'hlj).toNat : Int) ≤ 57 := by omega
            have C := rmul_any X 10 w hXf (by decide +kernel)
            cases hf : fits (X * 10)
            · rw [val1_no hf, err1_no hf] at C
              have hbig : fits (sgd true (nv 0 (bl t))) = false := by
                cases h : fits (sgd true (nv 0 (bl t)))
                · rfl
                · have := sgd_fits (m := nv 0 ((bl t).take j) * 10) (by omega) h
                  have e : sgd true (nv 0 ((bl t).take j) * 10) = X * 10 := by rw [hXe]; unfold sgd; simp <;> omega
                  rw [e, hf] at this
                  cases this
              have e := HB.out hbig
              have e1 := Lib.hid e.1
              have e2 := Lib.hid e.2
              replace C := Lib.hid C
              clear e hbig hf hXe hXf hX d1 d2 hstep hle hat hl
              go_wp2_with (go_at_call 42; (with_reducible refine C.out.mono ?_); rintro e w' ⟨rfl, rfl⟩)
              go_ret2
              exact ⟨ret2 e1.out.symm e2.out.symm, rfl⟩
            · rw [val1_yes hf, err1_yes hf] at C
              have hd10 : fits (-(((t[j]'hlj).toNat : Int) - 48)) = true := fits_mk (by omega) (by omega)
              have C2 := radd_any (X * 10) (-(((t[j]'hlj).toNat : Int) - 48)) w hf hd10
              have hnew : X * 10 + -(((t[j]'hlj).toNat : Int) - 48) = sgd true (nv 0 ((bl t).take (j + 1))) := by
                rw [hXe, hstep]
                unfold sgd
                simp <;> omega
              cases hf2 : fits (X * 10 + -(((t[j]'hlj).toNat : Int) - 48))
              · rw [val1_no hf2, err1_no hf2] at C2
                have hbig : fits (sgd true (nv 0 (bl t))) = false := by
                  cases h : fits (sgd true (nv 0 (bl t)))
                  · rfl
                  · have := sgd_fits hle h
                    rw [← hnew, hf2] at this
                    cases this
                have e := HB.out hbig
                have e1 := Lib.hid e.1
                have e2 := Lib.hid e.2
                replace C := Lib.hid C
                replace C2 := Lib.hid C2
                clear e hbig hf hf2 hnew hd10 hXe hXf hX d1 d2 hstep hle hat hl
                go_wp2_with (first | (go_at_call 42; (with_reducible refine C.out.mono ?_); rintro e w' ⟨rfl, rfl⟩) | (go_at_call 30; (with_reducible refine C2.out.mono ?_); rintro e w' ⟨rfl, rfl⟩))
                go_ret2
                exact ⟨ret2 e1.out.symm e2.out.symm, rfl⟩
              · rw [val1_yes hf2, err1_yes hf2] at C2
                have hX2 := Lib.hid (And.intro hnew hf2)
                replace C := Lib.hid C
                replace C2 := Lib.hid C2
                clear hf hf2 hnew hd10 hXe hXf hX d1 d2 hstep hle hat hl
                go_wp2_with (first | (go_at_call 42; (with_reducible refine C.out.mono ?_); rintro e w' ⟨rfl, rfl⟩) | (go_at_call 30; (with_reducible refine C2.out.mono ?_); rintro e w' ⟨rfl, rfl⟩))
                go_round
                case rel => exact ⟨j + 1, by omega, by go_num, _, rfl, hX2⟩
                case measure => simp [intOf]; omega
          · have hjj : j = t.size := by omega
            obtain ⟨hXe, hXf⟩ := hX.out
            rw [List.take_of_length_le (by rw [hll.out]; omega)] at hXe
            rw [hXe] at hXf
            have e := HY.out hXf
            have e1 := Lib.hid (hXe.trans e.1.symm)
            have e2 := Lib.hid e.2
            clear e hXe hXf hX hjj
            go_wp2
            go_ret2
            exact ⟨ret2 e1.out e2.out.symm, rfl⟩

theorem rparse_any (s : ByteArray) (w : World) (hs : s.size ≤ 1000) :
    Calls Tryd.prog 46 #[.string s] w fun e w' => e = .returned (.tuple #[.int .i64 (numV (bl s)), .int .i64 (numE (bl s))]) ∧ w = w' := by
  by_cases h : 0 < s.size
  · have hl : bl s = s[0]'h :: (bl s).drop 1 := by
      have h' : 0 < s.data.toList.length := by simpa using h
      have := List.drop_eq_getElem_cons h'
      simp only [List.drop_zero] at this
      exact this
    by_cases hc : (s[0]'h).toNat = 45
    · refine rparse_neg s w hs ?_ h hc
      rw [hl, neg_cons, beq_iff_eq]
      exact UInt8.toNat_inj.1 hc
    · refine rparse_pos s w hs ?_ (.inr ⟨h, by omega⟩)
      rw [hl, neg_cons, beq_eq_false_iff_ne]
      intro e
      exact hc (by rw [e]; rfl)
  · refine rparse_pos s w hs ?_ (.inl (by omega))
    have : bl s = [] := List.eq_nil_of_length_eq_zero (by rw [bl_len]; omega)
    rw [this]
    rfl
end Go.Proofs.YtcklidpfmpanhaaDoor
