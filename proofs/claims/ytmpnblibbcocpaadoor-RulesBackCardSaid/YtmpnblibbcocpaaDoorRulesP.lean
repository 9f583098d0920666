
/- The document's reader of rules: its memory, blanks. Conditions stand at each theorem. -/
import Derived.Test.YtmpnblibbcocpaaDoorRulesG
import Derived.Test.YtmpnblibbcocpaaDoorTextH
import Derived.BigQuiet
namespace Go.Proofs.YtmpnblibbcocpaaDoor
open Go.ChangeShapes Go.WideShapes Go.ChangeAt Go.RowKit Go.Lib
set_option linter.unusedVariables false

/-- the document's reader, at a place -/
structure T2 (b : Nat) (s : ByteArray) (i : Nat) (w : World) : Prop where
  c0 : w.cell? ⟨b, 0, none⟩ = some (.string s)
  c1 : w.cell? ⟨b, 1, none⟩ = some (.int .i64 (i : Nat))
  f1 : w.frozen? ⟨b, 1, none⟩ = false
  lt : b < w.heap.size
  le : i ≤ s.size
  big : s.size ≤ 100000
theorem T2.upto {b B : Nat} {s : ByteArray} {i : Nat} {w w' : World} (h : T2 b s i w) (hb : Below B w w') (hB : b < B) : T2 b s i w' :=
  ⟨(hb.cell (p := ⟨b, 0, none⟩) hB).trans h.c0, (hb.cell (p := ⟨b, 1, none⟩) hB).trans h.c1, (hb.frozen (p := ⟨b, 1, none⟩) hB).trans h.f1, Nat.lt_of_lt_of_le h.lt hb.size, h.le, h.big⟩
theorem T2.below {b : Nat} {s : ByteArray} {i : Nat} {w w' : World} (h : T2 b s i w) (hb : Below w.heap.size w w') : T2 b s i w' := h.upto hb h.lt
theorem T2.set {b : Nat} {s : ByteArray} {i : Nat} {w : World} (h : T2 b s i w) {j : Nat} (hj : j ≤ s.size) {z : Int} (hz : z = (j : Nat)) : T2 b s j (w.setCell ⟨b, 1, none⟩ (.int .i64 z)) where
  c0 := by rw [World.cell?_setCell_other _ _ _ _ (by simp)]; exact h.c0
  c1 := by subst hz; exact World.cell?_setCell_same _ _ _ h.c1
  f1 := by rw [World.frozen?_setCell]; exact h.f1
  lt := Nat.lt_of_lt_of_le h.lt (But.set b 1 w _).size
  le := hj
  big := h.big
def ix2 (b : Nat) (w : World) : Nat := match w.cell? ⟨b, 1, none⟩ with
  | some v => (RowKit.intOf v).toNat
  | none => 0
theorem T2.ix {b : Nat} {s : ByteArray} {i : Nat} {w : World} (h : T2 b s i w) : ix2 b w = i := by
  unfold ix2
  rw [h.c1]
  simp [RowKit.intOf]
/-- the signs of what is left of a text -/
def rest (s : ByteArray) (i : Nat) : List Nat := sgs ((bl s).drop i)
theorem rest_end {s : ByteArray} {i : Nat} (h : s.size ≤ i) : rest s i = [] := by
  unfold rest
  rw [List.drop_eq_nil_of_le (by rw [bl_len]; exact h), sgs_nil]
theorem bt_drop {s : ByteArray} {i : Nat} (h : i < s.size) : bt ((bl s).drop i) 0 = (s[i]'h).toNat := by
  rw [bl_at h]
  unfold bt
  simp [List.getD]
theorem drop_ne {s : ByteArray} {i : Nat} (h : i < s.size) : (bl s).drop i ≠ [] := by
  intro hh
  have := congrArg List.length hh
  rw [List.length_drop, bl_len] at this
  simp at this
  omega
theorem rest_step {s : ByteArray} {i : Nat} (h : i < s.size) : rest s i = (sg ((bl s).drop i)).1 :: rest s (i + (sg ((bl s).drop i)).2) := by
  unfold rest
  rw [sgs_step (drop_ne h), List.drop_drop]
/-- the next sign and the next byte -/
theorem sg_byte {s : ByteArray} {i : Nat} (h : i < s.size) : ((s[i]'h).toNat < 128 ∧ sg ((bl s).drop i) = ((s[i]'h).toNat, 1)) ∨ (128 ≤ (s[i]'h).toNat ∧ 128 ≤ (sg ((bl s).drop i)).1) := by
  have e0 := bt_drop h
  unfold sg
  rw [e0]
  rcases sgN_shape ((bl s).drop i).length (s[i]'h).toNat (bt ((bl s).drop i) 1) (bt ((bl s).drop i) 2) (bt ((bl s).drop i) 3) with ⟨c, e⟩ | ⟨c1, c2, c3, cv, e⟩ | ⟨c1, c2, c3, c4, cv, cs, e⟩ | ⟨c1, c2, c3, c4, c5, cv, cw, e⟩ | ⟨c, _, e⟩
  · exact .inl ⟨c, e⟩
  · rw [e]; refine .inr ⟨?_, cv⟩; omega
  · rw [e]; refine .inr ⟨?_, by show 128 ≤ _; omega⟩; omega
  · rw [e]; refine .inr ⟨?_, by show 128 ≤ _; omega⟩; omega
  · rw [e]; exact .inr ⟨c, by show 128 ≤ _; omega⟩
theorem rest_ascii {s : ByteArray} {i : Nat} (h : i < s.size) (hb : (s[i]'h).toNat < 128) : rest s i = (s[i]'h).toNat :: rest s (i + 1) := by
  rw [rest_step h]
  rcases sg_byte h with ⟨_, e⟩ | ⟨h1, _⟩
  · rw [e]
  · omega
theorem hd_byte {s : ByteArray} {i : Nat} (h : i < s.size) {c : Nat} (hc : c < 128) : hd (rest s i) = (c : Nat) ↔ (s[i]'h).toNat = c := by
  rw [rest_step h, hd_cons]
  rcases sg_byte h with ⟨_, e⟩ | ⟨h1, h2⟩
  · rw [e]; constructor <;> intro hh <;> omega
  · constructor <;> intro hh <;> omega
theorem blank_rest {s : ByteArray} {i : Nat} (h : i < s.size) (hb : (s[i]'h).toNat = 32 ∨ (s[i]'h).toNat = 10) : blankP (rest s i) = blankP (rest s (i + 1)) := by
  rw [rest_ascii h (by omega)]
  unfold blankP
  rw [List.dropWhile_cons, if_pos]
  unfold blk
  rcases hb with e | e <;> rw [e] <;> decide
theorem blank_stop {s : ByteArray} {i : Nat} (h : i < s.size) (h1 : (s[i]'h).toNat ≠ 32) (h2 : (s[i]'h).toNat ≠ 10) : blankP (rest s i) = rest s i := by
  have e1 := mt (hd_byte h (c := 32) (by decide)).1 h1
  have e2 := mt (hd_byte h (c := 10) (by decide)).1 h2
  rw [rest_step h] at *
  rw [hd_cons] at e1 e2
  unfold blankP
  rw [List.dropWhile_cons, if_neg]
  unfold blk
  rw [Bool.or_eq_true, beq_iff_eq, beq_iff_eq]
  omega

set_option maxHeartbeats 1000000 in
set_option maxRecDepth 100000 in
theorem blank_rf {b : Nat} {s : ByteArray} {i : Nat} {w : World} (h : T2 b s i w) :
    Calls Tryd.prog 21 #[pt b] w fun e w' => e = .returned (.tuple #[]) ∧ ∃ k, rest s k = blankP (rest s i) ∧ T2 b s k w' ∧ But b w w' := by
  go_enter Tryd.func21, Tryd.ntmps21
  go_wp2
  go_loopw [36] (fun _ wr => ∃ k, T2 b s k wr ∧ But b w wr ∧ Hid (blankP (rest s i) = blankP (rest s k))) (fun _ wr => s.size - ix2 b wr)
  case atStart => exact ⟨i, h, But.refl _ _, Lib.hid rfl⟩
  case round =>
    obtain ⟨k, hs, hb, hp⟩ := hrel
    have hix := hs.ix
    have c0 := hs.c0
    have c1 := hs.c1
    have f1 := hs.f1
    have hle := hs.le
    have hbig := hs.big
    by_cases hk : k < s.size
    · obtain ⟨B, hB⟩ : ∃ B, (s[k]'hk).toNat = B := ⟨_, rfl⟩
      have i0 : 0 ≤ (k : Int) := by omega
      have i1 : (k : Int) < (s.size : Int) := by omega
      by_cases hbk : B = 32 ∨ B = 10
      · have hn := Lib.hid (hp.out.trans (blank_rest hk (by rw [hB]; exact hbk)))
        rcases hbk with rfl | rfl
        all_goals
          go_wp2
          go_quiet (fail)
          go_wp2
          refine ⟨⟨k + 1, (hs.below (below_drewN wr nq)).set (by omega) (by omega), (hb.on (below_drewN wr nq)).put _ _, hn⟩, ?_⟩
          rw [((hs.below (below_drewN wr nq)).set (j := k + 1) (by omega) (by omega)).ix, hix]
          omega
      · have b1 : ((B : Int) == 32) = false := by rw [beq_eq_false_iff_ne]; omega
        have b2 : ((B : Int) == 10) = false := by rw [beq_eq_false_iff_ne]; omega
        have hn := blank_stop hk (by omega) (by omega)
        clear hbk
        go_wp2
        go_quiet (fail)
        go_wp2
        go_end0
        exact ⟨rfl, k, by rw [hp.out, hn], hs.below (below_drewN wr nq), hb.on (below_drewN wr nq)⟩
    · have i1 : ¬ (k : Int) < (s.size : Int) := by omega
      go_wp2
      go_quiet (fail)
      go_wp2
      go_end0
      exact ⟨rfl, k, by rw [hp.out, rest_end (by omega)]; rfl, hs.below (below_drewN wr nq), hb.on (below_drewN wr nq)⟩
end Go.Proofs.YtmpnblibbcocpaaDoor
