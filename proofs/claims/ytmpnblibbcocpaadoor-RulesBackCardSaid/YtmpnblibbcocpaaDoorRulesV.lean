
/- The text of a sequence as the program writes it: rules.text over a strings.Builder. Conditions stand at each theorem. -/
import Derived.Test.YtmpnblibbcocpaaDoorRulesU
import Derived.Test.YtmpnblibbcocpaaDoorShelfB
import Derived.Test.YtmpnblibbcocpaaDoorTextF
namespace Go.Proofs.YtmpnblibbcocpaaDoor
open Go.ChangeShapes Go.WideShapes Go.ChangeAt Go.RowKit Go.Lib
set_option linter.unusedVariables false

def bren : Go.Shelf.Ren := ⟨fun | 166 => 40 | 167 => 38 | 169 => 41 | 240 => 47 | 276 => 50 | n => n, Tryd.lays156_ren.t, fun n => n⟩
theorem laysB : Go.Proofs.Lays.n167 Tryd.prog bren := { Tryd.lays156 with
  f167 := Tryd.func38.trans (congrArg some (by kernel_rfl))
  f240 := Tryd.func47.trans (congrArg some (by kernel_rfl))
  f276 := Tryd.func50.trans (congrArg some (by kernel_rfl))
  t5 := Tryd.underlying5
  a5 := Tryd.isAgg5
  z5 := Tryd.sizeOf5
  v5 := Tryd.zeroValue5 }
theorem laysS : Go.Proofs.Lays.n166 Tryd.prog Tryd.lays156_ren := { Tryd.lays156 with }
theorem extraB : Builder.Extra Tryd.prog bren := {
  sizeBuilder := by kernel_rfl
  liesBuilder := by kernel_rfl
  t5 := Tryd.underlying5
  a5 := Tryd.isAgg5
  z5 := Tryd.sizeOf5
  v5 := Tryd.zeroValue5
  infoByte := by kernel_rfl
  cellsByte := by kernel_rfl
  sizeByte := by kernel_rfl
  neB5 := by decide }
abbrev IsB (B : Nat) (X : List UInt8) (w : World) : Prop := IsBuilder 74 5 B B (byteCells X) w
theorem IsB.below {B : Nat} {X : List UInt8} {w w' : World} (h : IsB B X w) (hb : Below w.heap.size w w') : IsB B X w' := by
  rcases h with ⟨h1, v, h2, h3, h4⟩ | ⟨h1, v, h2, h3, h4⟩
  · exact .inl ⟨h1, v, (hb.block _ (Array.getElem?_eq_some_iff.1 h2).1).trans h2, own_below h3 hb, h4⟩
  · exact .inr ⟨h1, v, (hb.block _ (Array.getElem?_eq_some_iff.1 h2).1).trans h2, own_below h3 hb, h4⟩
theorem wb92 (B : Nat) (X : List UInt8) (w : World) (h : IsB B X w) (hl : X.length ≤ 100000000) (hB : B ≤ w.heap.size) :
    Calls Tryd.prog 38 #[.pointer (some ⟨B, 0, none⟩), .int .u8 92] w fun e w' => e = .returned .nilIface ∧ IsB B (X ++ [92]) w' ∧ Below B w w' := by
  refine (Any.Builder_WriteByte laysB extraB B B (byteCells X) 92 w h (by rw [byteCells_length]; omega) hB).mono ?_
  rintro e w' ⟨rfl, h2, h3⟩
  refine ⟨rfl, .inr ?_, h3⟩
  have e : byteCells (X ++ [92]) = byteCells X ++ [.int .u8 92] := by rw [byteCells_append]; rfl
  rw [e]
  exact h2
theorem ws_b (B : Nat) (X s : List UInt8) (w : World) (h : IsB B X w) (hl : X.length ≤ 100000000) (hs : s.length ≤ 100000000) (hB : B ≤ w.heap.size) :
    Calls Tryd.prog 40 #[.pointer (some ⟨B, 0, none⟩), .string ⟨s.toArray⟩] w fun e w' => e = .returned (.tuple #[.int .i64 (⟨s.toArray⟩ : ByteArray).size, .nilIface]) ∧ IsB B (X ++ s) w' ∧ Below B w w' := by
  refine (Any.Builder_WriteString laysS Tryd.Builder_Extra_156 B B (byteCells X) ⟨s.toArray⟩ w h (by rw [byteCells_length, show (⟨s.toArray⟩ : ByteArray).size = s.length from by simp [ByteArray.size]]; omega) hB).mono ?_
  rintro e w' ⟨rfl, h2, h3⟩
  refine ⟨rfl, .inr ?_, h3⟩
  have e : byteCells (X ++ s) = byteCells X ++ strCells ⟨s.toArray⟩ := by rw [byteCells_append]; rfl
  rw [e]
  exact h2
theorem bs_b (B : Nat) (X : List UInt8) (w : World) (h : IsB B X w) (hB : B ≤ w.heap.size) :
    Calls Tryd.prog 41 #[.pointer (some ⟨B, 0, none⟩)] w fun e w' => e = .returned (.string ⟨X.toArray⟩) ∧ Below B w w' :=
  Tryd.Builder_String_any B B X w h hB

/-- the text of a sequence, as bytes -/
def one92 (c : Int) : List UInt8 := (if spZ c then [92] else []) ++ (if isZ c then jn [c.toNat] else [])
def textB : List Int → List UInt8
  | [] => []
  | c :: l => one92 c ++ textB l
theorem one92_len (c : Int) : (one92 c).length ≤ 5 := by
  unfold one92
  have := jn_len [c.toNat]
  split <;> split <;> simp_all
  all_goals omega
theorem textB_app (l m : List Int) : textB (l ++ m) = textB l ++ textB m := by
  induction l with
  | nil => rfl
  | cons c l ih => show one92 c ++ textB (l ++ m) = one92 c ++ textB l ++ textB m; rw [ih, List.append_assoc]
theorem textB_len (l : List Int) : (textB l).length ≤ 5 * l.length := by
  induction l with
  | nil => simp [textB]
  | cons c l ih =>
    have := one92_len c
    simp only [textB, List.length_append, List.length_cons]
    omega
theorem textB_take {l : List Int} {k : Nat} (h : k < l.length) : textB (l.take (k + 1)) = textB (l.take k) ++ one92 (l.getD k 0) := by
  rw [List.take_add_one, List.getElem?_eq_getElem h, textB_app]
  congr 1
  simp [textB, List.getD, h]

theorem Q5 {l : List Int} {k n : Nat} (hn : l.length = n) (hl : n ≤ 1000000) (hk : k ≤ n) : (textB (l.take k)).length ≤ 5000000 := by
  have := textB_len (l.take k)
  rw [List.length_take] at this
  omega
theorem put1 (x : Nat) (W : World) : Calls Tryd.prog 16 #[.slice (some ⟨W.heap.size, 0, none⟩) 1 1] (W.alloc (Obj.cells #[.int .i64 (x : Nat)] 3)) fun e w' => e = .returned (.string ⟨(jn [x]).toArray⟩) ∧ Below (W.alloc (Obj.cells #[.int .i64 (x : Nat)] 3)).heap.size (W.alloc (Obj.cells #[.int .i64 (x : Nat)] 3)) w' :=
  Put_any _ [x] _ (Rd.lit W [(x : Int)] 1 rfl) (by simp)
theorem Q4 (x : Nat) : (jn [x]).length ≤ 100000000 := by have := jn_len [x]; simp at this; omega
set_option maxHeartbeats 4000000 in
set_option maxRecDepth 100000 in
theorem rtext_any (v : Value) (L : List Int) (w : World) (h : Rd w v L) (hl : L.length ≤ 1000000) :
    Calls Tryd.prog 24 #[v] w fun e w' => e = .returned (.string ⟨(textB L).toArray⟩) ∧ Below w.heap.size w w' := by
  obtain ⟨A, c, rfl, hc, hq⟩ := h
  obtain ⟨n, hn⟩ : ∃ n, L.length = n := ⟨_, rfl⟩
  rw [hn] at hq hl hc ⊢
  go_enter Tryd.func24, Tryd.ntmps24
  go_wp2
  go_loopw [8, 5] (fun i x wr => ∃ k : Nat, i = .int .i64 k ∧ k ≤ n ∧ Below w.heap.size w wr ∧ Hid (IsB w.heap.size (textB (L.take k)) wr)) (fun i _ _ => n - (RowKit.intOf i).toNat)
  case atStart => exact ⟨0, rfl, Nat.zero_le _, (Below.refl _ _).alloc (Nat.le_refl _) _, Lib.hid (fresh_isBuilder _ _ w)⟩
  case round =>
    obtain ⟨k, rfl, hk, hw, he⟩ := hrel
    have hB := hw.size
    have hX := Q5 hn hl hk
    by_cases h : k < n
    · obtain ⟨g, o, rfl, t1, q1⟩ := hq (by omega)
      have hkl : k < L.length := by omega
      have c0 := (hw.cell (p := ⟨g, o + k, none⟩) t1).trans (q1 k h)
      have u1 : g < wr.heap.size := Nat.lt_of_lt_of_le t1 hB
      have hst := textB_take hkl
      generalize L.getD k 0 = z at *
      have i0 : 0 ≤ (k : Int) := by omega
      have i1 : (k : Int) < (n : Int) := by omega
      clear q1 hq
      have SP := special_rd z
      have SG := Sign_any z
      generalize hXX : textB (L.take k) = X at *
      generalize hYY : textB (L.take (k + 1)) = Y at *
      unfold one92 at hst
      have e1 : Y = X ++ ((if spZ z = true then [92] else []) ++ if isZ z = true then jn [z.toNat] else []) := hst
      clear hst
      by_cases hg : isZ z = true
      · obtain ⟨x, rfl⟩ : ∃ x : Nat, z = x := ⟨z.toNat, by unfold isZ at hg; simp at hg; omega⟩
        rw [if_pos hg, Int.toNat_natCast] at e1
        rw [hg] at SG
        replace SG := Lib.hid SG
        have PX := Lib.hid (put1 x)
        by_cases hs : spZ (x : Int) = true
        · rw [if_pos hs] at e1
          rw [hs] at SP
          replace SP := Lib.hid SP
          subst e1
          go_wp2_with (first
            | (go_at_call 37; (with_reducible refine (SP.out _).mono ?_); rintro r w2 ⟨rfl, rfl⟩)
            | (go_at_call 39; (with_reducible refine (SG.out _).mono ?_); rintro r w2 ⟨rfl, rfl⟩)
            | (go_at_call 38; (with_reducible refine (wb92 _ _ _ he.out (by omega) hB).mono ?_); rintro r w3 ⟨rfl, hq3, hb3⟩; replace hq3 := Lib.hid hq3; have hbb := hw.trans hb3; have hB3 := hbb.size)
            | (go_at_call 16; (with_reducible refine (PX.out _).mono ?_); rintro r w4 ⟨rfl, hb4⟩; have hal := (Below.refl w3.heap.size w3).alloc (Nat.le_refl _) (Obj.cells #[.int .i64 (x : Nat)] 3); have hq4 := Lib.hid ((IsB.below hq3.out hal).below hb4); have hw4 := btr (hbb.alloc hB3 (Obj.cells #[.int .i64 (x : Nat)] 3)) hb4)
            | (go_at_call 40; (with_reducible refine (ws_b _ _ _ _ hq4.out (by first | omega | (simp; omega)) (Q4 x) hw4.size).mono ?_); rintro r w5 ⟨rfl, hq5, hb5⟩; replace hq5 := Lib.hid hq5; have hw5 := hw4.trans hb5))
          exact ⟨⟨k + 1, by go_num, by omega, hw5, by rw [hYY, ← List.append_assoc]; exact hq5⟩, by simp [RowKit.intOf]; omega⟩
        · rw [if_neg hs, List.nil_append] at e1
          subst e1
          rw [Bool.not_eq_true] at hs
          rw [hs] at SP
          replace SP := Lib.hid SP
          go_wp2_with (first
            | (go_at_call 37; (with_reducible refine (SP.out _).mono ?_); rintro r w2 ⟨rfl, rfl⟩)
            | (go_at_call 39; (with_reducible refine (SG.out _).mono ?_); rintro r w2 ⟨rfl, rfl⟩)
            | (go_at_call 16; (with_reducible refine (PX.out _).mono ?_); rintro r w4 ⟨rfl, hb4⟩; have hal := (Below.refl wr.heap.size wr).alloc (Nat.le_refl _) (Obj.cells #[.int .i64 (x : Nat)] 3); have hq4 := Lib.hid ((IsB.below he.out hal).below hb4); have hw4 := btr (hw.alloc hB (Obj.cells #[.int .i64 (x : Nat)] 3)) hb4)
            | (go_at_call 40; (with_reducible refine (ws_b _ _ _ _ hq4.out (by first | omega | (simp; omega)) (Q4 x) hw4.size).mono ?_); rintro r w5 ⟨rfl, hq5, hb5⟩; replace hq5 := Lib.hid hq5; have hw5 := hw4.trans hb5))
          exact ⟨⟨k + 1, by go_num, by omega, hw5, by rw [hYY]; exact hq5⟩, by simp [RowKit.intOf]; omega⟩
      · rw [if_neg hg, List.append_nil] at e1
        rw [Bool.not_eq_true] at hg
        rw [hg] at SG
        replace SG := Lib.hid SG
        by_cases hs : spZ z = true
        · rw [if_pos hs] at e1
          subst e1
          rw [hs] at SP
          replace SP := Lib.hid SP
          go_wp2_with (first
          | (go_at_call 37; (with_reducible refine (SP.out _).mono ?_); rintro r w2 ⟨rfl, rfl⟩)
          | (go_at_call 39; (with_reducible refine (SG.out _).mono ?_); rintro r w2 ⟨rfl, rfl⟩)
          | (go_at_call 38; (with_reducible refine (wb92 _ _ _ he.out (by omega) hB).mono ?_); rintro r w3 ⟨rfl, hq3, hb3⟩; replace hq3 := Lib.hid hq3; have hbb := hw.trans hb3; have hB3 := hbb.size))
          exact ⟨⟨k + 1, by go_num, by omega, hbb, by rw [hYY]; exact hq3⟩, by simp [RowKit.intOf]; omega⟩
        · rw [if_neg hs, List.append_nil] at e1
          subst e1
          rw [Bool.not_eq_true] at hs
          rw [hs] at SP
          replace SP := Lib.hid SP
          go_wp2_with (first
          | (go_at_call 37; (with_reducible refine (SP.out _).mono ?_); rintro r w2 ⟨rfl, rfl⟩)
          | (go_at_call 39; (with_reducible refine (SG.out _).mono ?_); rintro r w2 ⟨rfl, rfl⟩)
          | (go_at_call 38; (with_reducible refine (wb92 _ _ _ he.out (by omega) hB).mono ?_); rintro r w3 ⟨rfl, hq3, hb3⟩; replace hq3 := Lib.hid hq3; have hbb := hw.trans hb3; have hB3 := hbb.size))
          exact ⟨⟨k + 1, by go_num, by omega, hw, by rw [hYY]; exact he⟩, by simp [RowKit.intOf]; omega⟩
    · have e : k = n := by omega
      subst e
      rw [List.take_of_length_le (by omega)] at he hX
      go_wp2_with (first
        | (go_at_call 41; (with_reducible refine (bs_b _ _ _ he.out hB).mono ?_); rintro r w3 ⟨rfl, hb3⟩))
      go_ret
      exact ⟨rfl, hw.trans hb3⟩
end Go.Proofs.YtmpnblibbcocpaaDoor
