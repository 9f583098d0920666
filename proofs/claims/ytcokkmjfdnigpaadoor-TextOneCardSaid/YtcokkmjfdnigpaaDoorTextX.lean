/- The next text: what utext.Next and umlautref1.Next return, for every text. -/
import Derived.Test.YtcokkmjfdnigpaaDoorTextW
import Derived.Test.YtcokkmjfdnigpaaDoorTextP
namespace Go.Proofs.YtcokkmjfdnigpaaDoor
open Go.ChangeShapes Go.WideShapes Go.ChangeAt Go.RowKit Go.Lib
set_option linter.unusedVariables false

/-- where the bytes of 255 at the end begin -/
theorem last_not (s : ByteArray) : ∃ m : Nat, m ≤ s.size ∧ (∀ i (h : i < s.size), m ≤ i → s[i] = 255) ∧ (∀ (h : 0 < m) (h2 : m - 1 < s.size), s[m - 1] ≠ 255) := by
  have go : ∀ k : Nat, k ≤ s.size → (∀ i (h : i < s.size), k ≤ i → s[i] = 255) → ∃ m : Nat, m ≤ s.size ∧ (∀ i (h : i < s.size), m ≤ i → s[i] = 255) ∧ (∀ (h : 0 < m) (h2 : m - 1 < s.size), s[m - 1] ≠ 255) := by
    intro k
    induction k with
    | zero => exact fun _ h => ⟨0, Nat.zero_le _, h, fun h0 => by omega⟩
    | succ k ih =>
      intro hk h
      by_cases hb : s[k]'(by omega) = 255
      · exact ih (by omega) (fun i hi hki => by
          rcases Nat.eq_or_lt_of_le hki with rfl | hlt
          · exact hb
          · exact h i hi hlt)
      · exact ⟨k + 1, hk, h, fun _ _ => by simpa using hb⟩
  exact go s.size (Nat.le_refl _) (fun i hi hki => by omega)

/-- a literal of bytes as a string -/
theorem conv_lit (w : World) {cs : Array Value} (bs : List UInt8) {n : Nat} (hn : n = bs.length) (hcs : ∀ k, k < n → cs[k]? = some (.int .u8 ((bs.getD k 0).toNat : Int))) (W : World) (hW : W.heap = (w.alloc (.cells cs 5)).heap) :
    (convert 32 9 (.slice (some ⟨w.heap.size, 0, none⟩) n n)).run Tryd.prog W = .ok (.string ⟨bs.toArray⟩) W := by
  have e := run_convert_bytes_arg W 32 5 Tryd.underlying32 Tryd.underlying5 w.heap.size 0 n n (bs.map fun b => (b.toNat : Int)) (by simp [hn]) (fun i hi => by
    have h1 : W.cell? ⟨w.heap.size, 0 + i, none⟩ = (w.alloc (.cells cs 5)).cell? ⟨w.heap.size, 0 + i, none⟩ := World.cell?_of_block (by rw [hW])
    rw [h1, Nat.zero_add, World.cell?_alloc_at _ _ _ _ rfl, hcs i hi]
    have hib : i < bs.length := by omega
    simp [List.getD, hib]) 9 Tryd.underlying9
  have e2 : strOfNums (bs.map fun b => (b.toNat : Int)) = ⟨bs.toArray⟩ := by
    unfold strOfNums
    rw [List.map_map]
    congr 2
    exact (List.map_congr_left (fun b _ => by simp)).trans (List.map_id bs)
  rw [e2] at e
  exact e

set_option maxRecDepth 100000 in
theorem next_any (s : ByteArray) (w : World) (hs : s.size ≤ 9223372036854775807) (m : Nat) (hm : m < s.size) (h1 : ∀ i (h : i < s.size), m < i → s[i] = 255) (B : Nat) (hB : s[m].toNat = B) (hlt : B < 255) (Cc : UInt8) (hC : Cc.toNat = B + 1) :
    Calls Tryd.prog 15 #[.string s] w fun e w' => e = .returned (.tuple #[.string (s.extract 0 m ++ ⟨#[Cc]⟩), .bool true]) ∧ Below w.heap.size w w' := by
  go_enter Tryd.func15, Tryd.ntmps15
  go_wp2_with fail
  go_loop [4] (fun i => ∃ j : Nat, m ≤ j ∧ j < s.size ∧ i = .int .i64 ((j : Int) + 1)) (fun i => (RowKit.intOf i).toNat)
  case atStart => exact ⟨s.size - 1, by omega, by omega, by rw [show ((s.size - 1 : Nat) : Int) + 1 = (s.size : Int) by omega]⟩
  case round =>
    obtain ⟨j, hj, hj2, rfl⟩ := hrel
    by_cases h : m < j
    · have hc : (s[j]'hj2).toNat = 255 := by rw [h1 j hj2 h]; rfl
      clear h1
      go_wp2_with fail
      go_round
      case rel => exact ⟨j - 1, by omega, by omega, by rw [show ((j - 1 : Nat) : Int) + 1 = (j : Int) by omega]⟩
      case measure => first | (simp [RowKit.intOf]; done) | (simp [RowKit.intOf]; omega)
    · have : j = m := by omega
      subst this
      have hcb : ¬ (B : Int) = 255 := by omega
      clear h1 h
      have D0 := conv_lit w [Cc] (n := 1) (cs := #[.int .u8 ((B : Int) + 1)]) rfl (fun k hk => by
        have : k = 0 := by simpa using hk
        subst this
        show some (Value.int .u8 ((B : Int) + 1)) = some (Value.int .u8 (Cc.toNat : Int))
        rw [hC]
        rfl) (w.alloc (.cells #[.int .u8 ((B : Int) + 1)] 5)).drew rfl
      go_wp2_with fail
      go_region
      all_goals (try go_wp2)
      all_goals go_ret2
      all_goals exact ⟨rfl, ((Below.refl _ _).alloc (Nat.le_refl _) _).drew⟩
set_option maxRecDepth 100000 in
theorem next_none (s : ByteArray) (w : World) (hs : s.size ≤ 9223372036854775807) (h1 : ∀ i (h : i < s.size), s[i] = 255) :
    Calls Tryd.prog 15 #[.string s] w fun e w' => e = .returned (.tuple #[.string ⟨#[]⟩, .bool false]) ∧ Below w.heap.size w w' := by
  go_enter Tryd.func15, Tryd.ntmps15
  go_wp2_with fail
  go_loop [4] (fun i => ∃ j : Nat, j ≤ s.size ∧ i = .int .i64 j) (fun i => (RowKit.intOf i).toNat)
  case atStart => exact ⟨s.size, Nat.le_refl _, rfl⟩
  case round =>
    obtain ⟨j, hj2, rfl⟩ := hrel
    rcases j with _ | j
    · go_wp2
      go_ret2
      exact ⟨rfl, Below.refl _ _⟩
    · have hc : (s[j]'(by omega)).toNat = 255 := by rw [h1 j (by omega)]; rfl
      clear h1
      go_wp2_with fail
      go_round
      case rel => exact ⟨j, by omega, by go_num⟩
      case measure => first | (simp [RowKit.intOf]; done) | (simp [RowKit.intOf]; omega)
set_option maxRecDepth 100000 in
theorem rnext_any (s : ByteArray) (w : World) (hs : s.size ≤ 9223372036854775807) (m : Nat) (hm : m < s.size) (h1 : ∀ i (h : i < s.size), m < i → s[i] = 255) (B : Nat) (hB : s[m].toNat = B) (hlt : B < 255) (Cc : UInt8) (hC : Cc.toNat = B + 1) :
    Calls Tryd.prog 16 #[.string s] w fun e w' => e = .returned (.tuple #[.string (s.extract 0 m ++ ⟨#[Cc]⟩), .bool true]) ∧ Below w.heap.size w w' := by
  go_enter Tryd.func16, Tryd.ntmps16
  go_wp2_with fail
  go_loop [4] (fun i => ∃ j : Nat, m ≤ j ∧ j < s.size ∧ i = .int .i64 ((j : Int) + 1)) (fun i => (RowKit.intOf i).toNat)
  case atStart => exact ⟨s.size - 1, by omega, by omega, by rw [show ((s.size - 1 : Nat) : Int) + 1 = (s.size : Int) by omega]⟩
  case round =>
    obtain ⟨j, hj, hj2, rfl⟩ := hrel
    by_cases h : m < j
    · have hc : (s[j]'hj2).toNat = 255 := by rw [h1 j hj2 h]; rfl
      clear h1
      go_wp2_with fail
      go_round
      case rel => exact ⟨j - 1, by omega, by omega, by rw [show ((j - 1 : Nat) : Int) + 1 = (j : Int) by omega]⟩
      case measure => first | (simp [RowKit.intOf]; done) | (simp [RowKit.intOf]; omega)
    · have : j = m := by omega
      subst this
      have hcb : ¬ (B : Int) = 255 := by omega
      clear h1 h
      have D0 := conv_lit w [Cc] (n := 1) (cs := #[.int .u8 ((B : Int) + 1)]) rfl (fun k hk => by
        have : k = 0 := by simpa using hk
        subst this
        show some (Value.int .u8 ((B : Int) + 1)) = some (Value.int .u8 (Cc.toNat : Int))
        rw [hC]
        rfl) (w.alloc (.cells #[.int .u8 ((B : Int) + 1)] 5)).drew rfl
      go_wp2_with fail
      go_region
      all_goals (try go_wp2)
      all_goals go_ret2
      all_goals exact ⟨rfl, ((Below.refl _ _).alloc (Nat.le_refl _) _).drew⟩
set_option maxRecDepth 100000 in
theorem rnext_none (s : ByteArray) (w : World) (hs : s.size ≤ 9223372036854775807) (h1 : ∀ i (h : i < s.size), s[i] = 255) :
    Calls Tryd.prog 16 #[.string s] w fun e w' => e = .returned (.tuple #[.string ⟨#[]⟩, .bool false]) ∧ Below w.heap.size w w' := by
  go_enter Tryd.func16, Tryd.ntmps16
  go_wp2_with fail
  go_loop [4] (fun i => ∃ j : Nat, j ≤ s.size ∧ i = .int .i64 j) (fun i => (RowKit.intOf i).toNat)
  case atStart => exact ⟨s.size, Nat.le_refl _, rfl⟩
  case round =>
    obtain ⟨j, hj2, rfl⟩ := hrel
    rcases j with _ | j
    · go_wp2
      go_ret2
      exact ⟨rfl, Below.refl _ _⟩
    · have hc : (s[j]'(by omega)).toNat = 255 := by rw [h1 j (by omega)]; rfl
      clear h1
      go_wp2_with fail
      go_round
      case rel => exact ⟨j, by omega, by go_num⟩
      case measure => first | (simp [RowKit.intOf]; done) | (simp [RowKit.intOf]; omega)
end Go.Proofs.YtcokkmjfdnigpaaDoor
