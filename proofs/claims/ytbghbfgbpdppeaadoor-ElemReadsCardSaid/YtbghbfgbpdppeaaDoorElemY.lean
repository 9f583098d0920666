
/- elem.Parse of any text: what it returns is an error or the word whose text it is; of a word's own text it is that word. Conditions: the text is not too long; the listed variables stand. -/
import Derived.Test.YtbghbfgbpdppeaaDoorElemX
import Derived.Test.YtbghbfgbpdppeaaDoorShelfT
import Derived.Test.YtbghbfgbpdppeaaDoorElemMakesWalk
namespace Go.Proofs.YtbghbfgbpdppeaaDoor
open Go.ChangeShapes Go.WideShapes Go.ChangeAt Go.RowKit
set_option linter.unusedVariables false

theorem dw_len (p : UInt8 → Bool) (l : List UInt8) : (l.dropWhile p).length ≤ l.length := (List.dropWhile_sublist p).length_le
theorem trimS_len (l c : List UInt8) : (Lib.trimS l c).length ≤ l.length := by
  unfold Lib.trimS Lib.trimLeftS Lib.trimRightS
  refine Nat.le_trans (dw_len _ _) ?_
  rw [List.length_reverse]
  refine Nat.le_trans (dw_len _ _) ?_
  rw [List.length_reverse]
  exact Nat.le_refl _
theorem ext_size (s : ByteArray) (i j : Nat) : (s.extract i j).size ≤ s.size := by
  rw [ByteArray.size_extract]; omega
theorem split_size (sep : ByteArray) : ∀ (k : Nat) (s : ByteArray), ∀ x ∈ Lib.splitB sep 0 k s, x.size ≤ s.size
  | 0, s, x, h => by
    rw [Lib.splitB_zero, List.mem_singleton] at h
    subst h
    exact Nat.le_refl _
  | k + 1, s, x, h => by
    unfold Lib.splitB at h
    split at h
    · rw [List.mem_singleton] at h
      subst h
      exact Nat.le_refl _
    · rcases List.mem_cons.1 h with rfl | h
      · exact ext_size _ _ _
      · exact Nat.le_trans (split_size sep k _ x h) (ext_size _ _ _)
/-- what a piece is read as, nought where it is none -/
def numOf (l : List UInt8) : Nat := match hexOf l with | .ok n => n | _ => 0
theorem numOf_le (l : List UInt8) : numOf l ≤ 65535 := by
  unfold numOf
  split
  · rename_i n h; exact hexOf_le h
  · exact Nat.zero_le _
theorem numOf_ok {l : List UInt8} {n : Nat} (h : hexOf l = .ok n) : numOf l = n := by unfold numOf; rw [h]
theorem hex_cases (l : List UInt8) : (∃ n, hexOf l = .ok n) ∨ ∀ n, hexOf l ≠ .ok n := by
  rcases hexOf l with n | _ | _
  · exact .inl ⟨n, rfl⟩
  · exact .inr fun n h => by cases h
  · exact .inr fun n h => by cases h

/-- what elem.Parse answers -/
structure Ans (s : List UInt8) (e : Ending) : Prop where
  ans : e = .returned (.tuple #[.int .u32 0, .int .i64 3]) ∨ ∃ x : Nat, x < 4294967296 ∧ txt x = s ∧ e = .returned (.tuple #[.int .u32 (x : Int), .int .i64 0])
  own : ∀ x : Nat, x < 4294967296 → txt x = s → e = .returned (.tuple #[.int .u32 (x : Int), .int .i64 0])

theorem txt_inj {x y : Nat} (hx : x < 4294967296) (hy : y < 4294967296) (h : txt x = txt y) : x = y := by
  have h1 : midT x = midT y := by rw [← trim_txt x, ← trim_txt y, h]
  have h2 := prefix_txt x
  rw [h, prefix_txt y] at h2
  have h3 : [hxn 4 (wP x), hxn 2 (wS x), hxn 2 (wT x)] = [hxn 4 (wP y), hxn 2 (wS y), hxn 2 (wT y)] := by rw [← mid_split x, ← mid_split y, h1]
  simp only [List.cons.injEq, and_true] at h3
  obtain ⟨a, b, c⟩ := h3
  have q : ∀ {k m n : Nat}, m < 16 ^ k → n < 16 ^ k → m ≤ 65535 → n ≤ 65535 → hxn k m = hxn k n → m = n := fun hm hn hm2 hn2 hh => by
    have e1 := hpar_hxn _ _ hm hm2
    have e2 := hpar_hxn _ _ hn hn2
    rw [hh, e2] at e1
    injection e1 with e1
    exact e1.symm
  have a' := q (wP_lt hx) (wP_lt hy) (by have := wP_lt hx; omega) (by have := wP_lt hy; omega) a
  have b' := q (wS_lt x) (wS_lt y) (by have := wS_lt x; omega) (by have := wS_lt y; omega) b
  have c' := q (Nat.lt_of_lt_of_le (wT_lt x) (by decide)) (Nat.lt_of_lt_of_le (wT_lt y) (by decide)) (by have := wT_lt x; omega) (by have := wT_lt y; omega) c
  rw [← mkW_of x, ← mkW_of y, a', b', c', h2]

theorem parse_all (s : ByteArray) (w : World) (hs : s.size ≤ 100000) (hT : TabsW w) :
    Calls Tryd.prog 30 #[.string s] w fun e w' => Ans (bl s) e ∧ Below w.heap.size w w' := by
  obtain ⟨m, hm⟩ : ∃ m : ByteArray, m = ⟨(Lib.trimS (bl s) [91, 42, 93]).toArray⟩ := ⟨_, rfl⟩
  have hml : bl m = Lib.trimS (bl s) [91, 42, 93] := by rw [hm]
  have hms : m.size ≤ 100000 := by
    have : (bl m).length ≤ (bl s).length := by rw [hml]; exact trimS_len _ _
    rw [bl_len, bl_len] at this
    omega
  have H : Hid (∀ W, Calls Tryd.prog 51 #[.string s, .string ⟨#[91, 42]⟩] W fun e w' => e = .returned (.bool (Lib.hasPrefix (bl s) [91, 42])) ∧ W = w') := Lib.hid (fun W => Calls.mono (Tryd.strings_HasPrefix s ⟨#[91, 42]⟩ W) fun _ _ h => ⟨h.1, h.2.symm⟩)
  have T : Hid (∀ W, Calls Tryd.prog 53 #[.string s, .string ⟨#[91, 42, 93]⟩] W fun e w' => e = .returned (.string m) ∧ Below W.heap.size W w') := Lib.hid (fun W => by
    rw [hm]
    exact Tryd.strings_Trim_laid s ⟨#[91, 42, 93]⟩ W (by omega) (by show 3 < 4294967281; decide) (by
      intro j b hj
      have : b = 91 ∨ b = 42 ∨ b = 93 := by
        have := List.mem_of_getElem? hj
        simpa using this
      rcases this with rfl | rfl | rfl <;> decide))
  have S : ∀ W, Below w.heap.size w W → Calls Tryd.prog 52 #[.string m, .string ⟨#[46]⟩] W fun e w' => e = .returned (.slice (some ⟨W.heap.size, 0, none⟩) (Lib.countB m ⟨#[46]⟩ + 1) (Lib.countB m ⟨#[46]⟩ + 1)) ∧ w' = W.alloc (.cells ((Lib.splitB ⟨#[46]⟩ 0 (Lib.countB m ⟨#[46]⟩) m).map Value.string).toArray 9) := fun W hb => split_any m ⟨#[46]⟩ W (hT.below hb).2.2 (by omega) (by decide)
  have hpl := Lib.splitB_all ⟨#[46]⟩ (by decide) 0 _ m rfl
  have hpd := Lib.splitB_data ⟨#[46]⟩ 0 (Lib.countB m ⟨#[46]⟩) m
  have hps := split_size ⟨#[46]⟩ (Lib.countB m ⟨#[46]⟩) m
  have hcount : Lib.countB m ⟨#[46]⟩ = (bl m).count 46 := Lib.count_one 46 (bl m)
  have hown : ∀ x, txt x = bl s → bl m = midT x := fun x hx => by rw [hml, ← hx]; exact trim_txt x
  by_cases hn : Lib.countB m ⟨#[46]⟩ = 2
  · rw [hn] at S hpl hpd hps
    obtain ⟨a, b, c, hl⟩ : ∃ a b c, Lib.splitB ⟨#[46]⟩ 0 2 m = [a, b, c] := by
      rcases h : Lib.splitB ⟨#[46]⟩ 0 2 m with _ | ⟨a, _ | ⟨b, _ | ⟨c, _ | ⟨d, l⟩⟩⟩⟩ <;> rw [h] at hpl <;> simp at hpl
      exact ⟨a, b, c, rfl⟩
    rw [hl] at S hpd hps
    have hP : ∃ P : Nat → ByteArray, P 0 = a ∧ P 1 = b ∧ P 2 = c := ⟨fun j => if j = 0 then a else if j = 1 then b else c, rfl, rfl, rfl⟩
    obtain ⟨P, p0, p1, p2⟩ := hP
    subst p0 p1 p2
    have hsz : ∀ j, j < 3 → (P j).size ≤ 100000 := fun j hj => by
      have : j = 0 ∨ j = 1 ∨ j = 2 := by omega
      have := hps (P j) (by rcases this with rfl | rfl | rfl <;> simp)
      omega
    have hpc : ∀ x, x < 4294967296 → txt x = bl s → bl (P 0) = hxn 4 (wP x) ∧ bl (P 1) = hxn 2 (wS x) ∧ bl (P 2) = hxn 2 (wT x) := fun x hx0 hx => by
      have h1 := hown x hx
      have h2 : [bl (P 0), bl (P 1), bl (P 2)] = Lib.splitK [46] 0 2 (bl m) := hpd
      rw [h1, mid_split] at h2
      simpa using h2
    have hnum : ∀ x, x < 4294967296 → txt x = bl s → hexOf (bl (P 0)) = .ok (wP x) ∧ hexOf (bl (P 1)) = .ok (wS x) ∧ hexOf (bl (P 2)) = .ok (wT x) := fun x hx0 hx => by
      obtain ⟨h1, h2, h3⟩ := hpc x hx0 hx
      have q : ∀ {k n : Nat}, n < 16 ^ (k + 1) → n ≤ 65535 → hexOf (hxn (k + 1) n) = .ok n := fun hk hk2 => by
        rw [hexOf, if_neg (by intro hh; have := hxn_len _ _ ▸ congrArg List.length hh; simp at this)]
        exact hpar_hxn _ _ hk hk2
      rw [h1, h2, h3]
      exact ⟨q (k := 3) (wP_lt hx0) (by have := wP_lt hx0; omega), q (k := 1) (wS_lt x) (by have := wS_lt x; omega), q (k := 1) (Nat.lt_of_lt_of_le (wT_lt x) (by decide)) (by have := wT_lt x; omega)⟩
    have S' : Hid (∀ W, Below w.heap.size w W → Calls Tryd.prog 52 #[.string m, .string ⟨#[46]⟩] W fun e w' => e = .returned (.slice (some ⟨W.heap.size, 0, none⟩) 3 3) ∧ w' = W.alloc (.cells #[.string (P 0), .string (P 1), .string (P 2)] 9)) := Lib.hid S
    have hN : ∀ j, j < 3 → (0 : Int) ≤ (numOf (bl (P j)) : Nat) ∧ ((numOf (bl (P j)) : Nat) : Int) ≤ 65535 := fun j _ => ⟨by omega, by have := numOf_le (bl (P j)); omega⟩
    have OKS : ∀ j, j < 3 → (∃ n, hexOf (bl (P j)) = .ok n) → ∀ W, Calls Tryd.prog 54 #[.string (P j), .int .i64 16, .int .i64 16] W fun e w' => e = .returned (.tuple #[.int .u64 (numOf (bl (P j)) : Nat), .nilIface]) ∧ Below W.heap.size W w' := fun j hj hh W => by
      obtain ⟨n, hh⟩ := hh
      rw [numOf_ok hh]
      exact pu_ok (P j) (by have := hsz j hj; omega) n W hh
    have BAD : ∀ f, f < 3 → (∀ j, j < f → ∃ n, hexOf (bl (P j)) = .ok n) → (∀ n, hexOf (bl (P f)) ≠ .ok n) → Calls Tryd.prog 30 #[.string s] w fun e w' => Ans (bl s) e ∧ Below w.heap.size w w' := fun f hf hj hb => by
      refine (parseI_f s m P (fun j => (numOf (bl (P j)) : Nat)) f hf _ w H T S' (Lib.hid (fun W j h _ => OKS j (by omega) (hj j h) W)) hN (Lib.hid (fun W hb2 => pu_err (P f) (by have := hsz f hf; omega) W (hT.below hb2).2.1 hb))).mono ?_
      rintro e w' ⟨rfl, hb1⟩
      refine ⟨⟨.inl rfl, fun x hx hxs => ?_⟩, hb1⟩
      exfalso
      obtain ⟨h1, h2, h3⟩ := hnum x hx hxs
      have : f = 0 ∨ f = 1 ∨ f = 2 := by omega
      rcases this with rfl | rfl | rfl
      · exact hb _ h1
      · exact hb _ h2
      · exact hb _ h3
    rcases hex_cases (bl (P 0)) with h0 | h0
    rotate_left
    · exact BAD 0 (by decide) (fun j hj => absurd hj (by omega)) h0
    rcases hex_cases (bl (P 1)) with h1 | h1
    rotate_left
    · exact BAD 1 (by decide) (fun j hj => by
        obtain rfl : j = 0 := by omega
        exact h0) h1
    rcases hex_cases (bl (P 2)) with h2 | h2
    rotate_left
    · exact BAD 2 (by decide) (fun j hj => by
        have : j = 0 ∨ j = 1 := by omega
        rcases this with rfl | rfl
        · exact h0
        · exact h1) h2
    have U : Hid (∀ W j, j < 3 → Below w.heap.size w W → Calls Tryd.prog 54 #[.string (P j), .int .i64 16, .int .i64 16] W fun e w' => e = .returned (.tuple #[.int .u64 (numOf (bl (P j)) : Nat), .nilIface]) ∧ Below W.heap.size W w') := Lib.hid (fun W j hj _ => OKS j hj (by
      have : j = 0 ∨ j = 1 ∨ j = 2 := by omega
      rcases this with rfl | rfl | rfl
      · exact h0
      · exact h1
      · exact h2) W)
    have l0 := numOf_le (bl (P 0))
    have hnn : ∀ x, x < 4294967296 → txt x = bl s → numOf (bl (P 0)) = wP x ∧ numOf (bl (P 1)) = wS x ∧ numOf (bl (P 2)) = wT x := fun x hx hxs => by
      obtain ⟨a1, a2, a3⟩ := hnum x hx hxs
      exact ⟨numOf_ok a1, numOf_ok a2, numOf_ok a3⟩
    by_cases hfit : numOf (bl (P 1)) < 256 ∧ numOf (bl (P 2)) < 128
    · have hx := mkW_lt (v := Lib.hasPrefix (bl s) [91, 42]) (show numOf (bl (P 0)) < 65536 by omega) hfit.1 hfit.2
      have hwx : ∀ x, x < 4294967296 → txt x = bl s → mkW (numOf (bl (P 0))) (numOf (bl (P 1))) (numOf (bl (P 2))) (Lib.hasPrefix (bl s) [91, 42]) = x := fun x hx0 hxs => by
        obtain ⟨a1, a2, a3⟩ := hnn x hx0 hxs
        rw [a1, a2, a3, ← hxs, prefix_txt, mkW_of]
      have M := Lib.hid (fun W => make_ok (numOf (bl (P 0))) (numOf (bl (P 1))) (numOf (bl (P 2))) (Lib.hasPrefix (bl s) [91, 42]) W (by omega) hfit.1 hfit.2)
      generalize hX : mkW (numOf (bl (P 0))) (numOf (bl (P 1))) (numOf (bl (P 2))) (Lib.hasPrefix (bl s) [91, 42]) = X at *
      have XT := Lib.hid (fun W (hb : Below w.heap.size w W) => text_elem X W hx (hT.below hb).1)
      by_cases hR : txt X = bl s
      · refine (parseI_ok s m P (fun j => (numOf (bl (P j)) : Nat)) _ w H T S' U hN (X : Nat) M ⟨(txt X).toArray⟩ XT (bytes_inj hR)).mono ?_
        rintro e w' ⟨rfl, hb⟩
        exact ⟨⟨.inr ⟨X, hx, hR, rfl⟩, fun x hx0 hxs => by rw [hwx x hx0 hxs]⟩, hb⟩
      · refine (parseI_x s m P (fun j => (numOf (bl (P j)) : Nat)) _ w H T S' U hN (X : Nat) M ⟨(txt X).toArray⟩ XT (by
          rw [ByteArray.toList_eq, ByteArray.toList_eq, beq_eq_false_iff_ne]
          exact hR)).mono ?_
        rintro e w' ⟨rfl, hb⟩
        exact ⟨⟨.inl rfl, fun x hx0 hxs => absurd (hwx x hx0 hxs ▸ hxs) hR⟩, hb⟩
    · refine (parseI_m s m P (fun j => (numOf (bl (P j)) : Nat)) _ w H T S' U hN (Lib.hid (fun W => makes_bad _ _ _ _ (by omega) W))).mono ?_
      rintro e w' ⟨rfl, hb⟩
      refine ⟨⟨.inl rfl, fun x hx0 hxs => ?_⟩, hb⟩
      obtain ⟨a1, a2, a3⟩ := hnn x hx0 hxs
      exact absurd ⟨by rw [a2]; exact wS_lt x, by rw [a3]; exact wT_lt x⟩ hfit
  · have S' : Hid (∀ W, Below w.heap.size w W → Calls Tryd.prog 52 #[.string m, .string ⟨#[46]⟩] W fun e w' => e = .returned (.slice (some ⟨W.heap.size, 0, none⟩) (Lib.countB m ⟨#[46]⟩ + 1 : Nat) (Lib.countB m ⟨#[46]⟩ + 1 : Nat)) ∧ Below W.heap.size W w') := Lib.hid (fun W hb => (S W hb).mono fun e w' ⟨he, hw⟩ => ⟨he, by rw [hw]; exact (Below.refl _ _).alloc (Nat.le_refl _) _⟩)
    refine (parseI_n s m _ (Lib.countB m ⟨#[46]⟩ + 1) w (by simp; omega) H T S').mono ?_
    rintro e w' ⟨rfl, hb⟩
    refine ⟨⟨.inl rfl, fun x hx hxs => ?_⟩, hb⟩
    exfalso
    apply hn
    rw [hcount, hown x hxs, mid_count]
end Go.Proofs.YtbghbfgbpdppeaaDoor
