
/- A number below 65536 to sixteen: internal/strconv.formatBits, strconv.FormatInt at base 16: what they return. -/
import Derived.Test.YtbghbfgbpdppeaaDoorElemC
namespace Go.Proofs.YtbghbfgbpdppeaaDoor
open Go.ChangeShapes Go.WideShapes Go.ChangeAt Go.RowKit
set_option linter.unusedVariables false

/-- block g is just the cells cs of the array, none frozen -/
def Blk65 (w : World) (g : Nat) (cs : Array Value) : Prop := w.heap[g]? = some (.cells cs 161 (0, 0))
theorem Blk65.cell {w : World} {g : Nat} {cs : Array Value} (h : Blk65 w g cs) (i : Nat) : w.cell? ⟨g, i, none⟩ = cs[i]? := cell_of_row w g i cs 161 (0, 0) h
theorem Blk65.frozen {w : World} {g : Nat} {cs : Array Value} (h : Blk65 w g cs) (i : Nat) : w.frozen? ⟨g, i, none⟩ = false := by
  unfold Blk65 at h
  simp [World.frozen?, h]
theorem Blk65.set_ {w : World} {g : Nat} {cs : Array Value} (h : Blk65 w g cs) (i : Nat) (u : Value) : Blk65 (w.setCell ⟨g, i, none⟩ u) g (cs.setIfInBounds i u) := by
  unfold Blk65 at h ⊢
  simp [World.setCell, Array.getElem?_modify, h]
theorem Blk65.new (w : World) (cs : Array Value) : Blk65 (w.alloc (.cells cs 161)) w.heap.size cs := by
  unfold Blk65
  exact heap_alloc_new w _
theorem ix0 (W : World) : (Instr.index 9 (.string ⟨#[48, 49, 50, 51, 52, 53, 54, 55, 56, 57, 97, 98, 99, 100, 101, 102, 103, 104, 105, 106, 107, 108, 109, 110, 111, 112, 113, 114, 115, 116, 117, 118, 119, 120, 121, 122]⟩) (.int .u64 0)).run Tryd.prog W = .ok (.int .u8 48) W := by kernel_rfl
theorem ix1 (W : World) : (Instr.index 9 (.string ⟨#[48, 49, 50, 51, 52, 53, 54, 55, 56, 57, 97, 98, 99, 100, 101, 102, 103, 104, 105, 106, 107, 108, 109, 110, 111, 112, 113, 114, 115, 116, 117, 118, 119, 120, 121, 122]⟩) (.int .u64 1)).run Tryd.prog W = .ok (.int .u8 49) W := by kernel_rfl
theorem ix2 (W : World) : (Instr.index 9 (.string ⟨#[48, 49, 50, 51, 52, 53, 54, 55, 56, 57, 97, 98, 99, 100, 101, 102, 103, 104, 105, 106, 107, 108, 109, 110, 111, 112, 113, 114, 115, 116, 117, 118, 119, 120, 121, 122]⟩) (.int .u64 2)).run Tryd.prog W = .ok (.int .u8 50) W := by kernel_rfl
theorem ix3 (W : World) : (Instr.index 9 (.string ⟨#[48, 49, 50, 51, 52, 53, 54, 55, 56, 57, 97, 98, 99, 100, 101, 102, 103, 104, 105, 106, 107, 108, 109, 110, 111, 112, 113, 114, 115, 116, 117, 118, 119, 120, 121, 122]⟩) (.int .u64 3)).run Tryd.prog W = .ok (.int .u8 51) W := by kernel_rfl
theorem ix4 (W : World) : (Instr.index 9 (.string ⟨#[48, 49, 50, 51, 52, 53, 54, 55, 56, 57, 97, 98, 99, 100, 101, 102, 103, 104, 105, 106, 107, 108, 109, 110, 111, 112, 113, 114, 115, 116, 117, 118, 119, 120, 121, 122]⟩) (.int .u64 4)).run Tryd.prog W = .ok (.int .u8 52) W := by kernel_rfl
theorem ix5 (W : World) : (Instr.index 9 (.string ⟨#[48, 49, 50, 51, 52, 53, 54, 55, 56, 57, 97, 98, 99, 100, 101, 102, 103, 104, 105, 106, 107, 108, 109, 110, 111, 112, 113, 114, 115, 116, 117, 118, 119, 120, 121, 122]⟩) (.int .u64 5)).run Tryd.prog W = .ok (.int .u8 53) W := by kernel_rfl
theorem ix6 (W : World) : (Instr.index 9 (.string ⟨#[48, 49, 50, 51, 52, 53, 54, 55, 56, 57, 97, 98, 99, 100, 101, 102, 103, 104, 105, 106, 107, 108, 109, 110, 111, 112, 113, 114, 115, 116, 117, 118, 119, 120, 121, 122]⟩) (.int .u64 6)).run Tryd.prog W = .ok (.int .u8 54) W := by kernel_rfl
theorem ix7 (W : World) : (Instr.index 9 (.string ⟨#[48, 49, 50, 51, 52, 53, 54, 55, 56, 57, 97, 98, 99, 100, 101, 102, 103, 104, 105, 106, 107, 108, 109, 110, 111, 112, 113, 114, 115, 116, 117, 118, 119, 120, 121, 122]⟩) (.int .u64 7)).run Tryd.prog W = .ok (.int .u8 55) W := by kernel_rfl
theorem ix8 (W : World) : (Instr.index 9 (.string ⟨#[48, 49, 50, 51, 52, 53, 54, 55, 56, 57, 97, 98, 99, 100, 101, 102, 103, 104, 105, 106, 107, 108, 109, 110, 111, 112, 113, 114, 115, 116, 117, 118, 119, 120, 121, 122]⟩) (.int .u64 8)).run Tryd.prog W = .ok (.int .u8 56) W := by kernel_rfl
theorem ix9 (W : World) : (Instr.index 9 (.string ⟨#[48, 49, 50, 51, 52, 53, 54, 55, 56, 57, 97, 98, 99, 100, 101, 102, 103, 104, 105, 106, 107, 108, 109, 110, 111, 112, 113, 114, 115, 116, 117, 118, 119, 120, 121, 122]⟩) (.int .u64 9)).run Tryd.prog W = .ok (.int .u8 57) W := by kernel_rfl
theorem ix10 (W : World) : (Instr.index 9 (.string ⟨#[48, 49, 50, 51, 52, 53, 54, 55, 56, 57, 97, 98, 99, 100, 101, 102, 103, 104, 105, 106, 107, 108, 109, 110, 111, 112, 113, 114, 115, 116, 117, 118, 119, 120, 121, 122]⟩) (.int .u64 10)).run Tryd.prog W = .ok (.int .u8 97) W := by kernel_rfl
theorem ix11 (W : World) : (Instr.index 9 (.string ⟨#[48, 49, 50, 51, 52, 53, 54, 55, 56, 57, 97, 98, 99, 100, 101, 102, 103, 104, 105, 106, 107, 108, 109, 110, 111, 112, 113, 114, 115, 116, 117, 118, 119, 120, 121, 122]⟩) (.int .u64 11)).run Tryd.prog W = .ok (.int .u8 98) W := by kernel_rfl
theorem ix12 (W : World) : (Instr.index 9 (.string ⟨#[48, 49, 50, 51, 52, 53, 54, 55, 56, 57, 97, 98, 99, 100, 101, 102, 103, 104, 105, 106, 107, 108, 109, 110, 111, 112, 113, 114, 115, 116, 117, 118, 119, 120, 121, 122]⟩) (.int .u64 12)).run Tryd.prog W = .ok (.int .u8 99) W := by kernel_rfl
theorem ix13 (W : World) : (Instr.index 9 (.string ⟨#[48, 49, 50, 51, 52, 53, 54, 55, 56, 57, 97, 98, 99, 100, 101, 102, 103, 104, 105, 106, 107, 108, 109, 110, 111, 112, 113, 114, 115, 116, 117, 118, 119, 120, 121, 122]⟩) (.int .u64 13)).run Tryd.prog W = .ok (.int .u8 100) W := by kernel_rfl
theorem ix14 (W : World) : (Instr.index 9 (.string ⟨#[48, 49, 50, 51, 52, 53, 54, 55, 56, 57, 97, 98, 99, 100, 101, 102, 103, 104, 105, 106, 107, 108, 109, 110, 111, 112, 113, 114, 115, 116, 117, 118, 119, 120, 121, 122]⟩) (.int .u64 14)).run Tryd.prog W = .ok (.int .u8 101) W := by kernel_rfl
theorem ix15 (W : World) : (Instr.index 9 (.string ⟨#[48, 49, 50, 51, 52, 53, 54, 55, 56, 57, 97, 98, 99, 100, 101, 102, 103, 104, 105, 106, 107, 108, 109, 110, 111, 112, 113, 114, 115, 116, 117, 118, 119, 120, 121, 122]⟩) (.int .u64 15)).run Tryd.prog W = .ok (.int .u8 102) W := by kernel_rfl
theorem ix (k : Nat) (hk : k < 16) (W : World) : (Instr.index 9 (.string ⟨#[48, 49, 50, 51, 52, 53, 54, 55, 56, 57, 97, 98, 99, 100, 101, 102, 103, 104, 105, 106, 107, 108, 109, 110, 111, 112, 113, 114, 115, 116, 117, 118, 119, 120, 121, 122]⟩) (.int .u64 (k : Int))).run Tryd.prog W = .ok (.int .u8 ((hxd k).toNat : Int)) W := by
  have h : k = 0 ∨ k = 1 ∨ k = 2 ∨ k = 3 ∨ k = 4 ∨ k = 5 ∨ k = 6 ∨ k = 7 ∨ k = 8 ∨ k = 9 ∨ k = 10 ∨ k = 11 ∨ k = 12 ∨ k = 13 ∨ k = 14 ∨ k = 15 := by omega
  rcases h with rfl | rfl | rfl | rfl | rfl | rfl | rfl | rfl | rfl | rfl | rfl | rfl | rfl | rfl | rfl | rfl
  · exact ix0 W
  · exact ix1 W
  · exact ix2 W
  · exact ix3 W
  · exact ix4 W
  · exact ix5 W
  · exact ix6 W
  · exact ix7 W
  · exact ix8 W
  · exact ix9 W
  · exact ix10 W
  · exact ix11 W
  · exact ix12 W
  · exact ix13 W
  · exact ix14 W
  · exact ix15 W
theorem sl65 (g i : Nat) (hi : i < 65) (W : World) : (Instr.sliceAt 161 (.pointer (some ⟨g, 0, none⟩)) (some (.int .i64 (i : Int))) none none).run Tryd.prog W = .ok (.slice (some ⟨g, i, none⟩) (65 - i) (65 - i)) W := by
  have hal : Tryd.prog.arrayLen 161 = 65 := by kernel_rfl
  rw [run_sliceAt_array_l W 161 ⟨g, 0, none⟩ (by kernel_rfl) .i64 (i : Int) (by omega) (by rw [hal]; omega)]
  rw [hal]
  have hsz : (sizeOf (Tryd.prog.elem 161)).run Tryd.prog W = .ok 1 W := by kernel_rfl
  rw [hsz]
  simp [slicedAt, Addr.add, Result.andThen]
  rw [if_neg (by omega)]
  split
  · next h => rw [h]
  · rfl
theorem cv65 (g i u : Nat) (cs : Array Value) (W : World) (hB : Blk65 W g cs) (hl : (hxL u).length = 65 - i) (hc : ∀ j, j < (hxL u).length → cs[i + j]? = some (.int .u8 (((hxL u).getD j 0).toNat : Int))) :
    (convert 59 9 (.slice (some ⟨g, i, none⟩) (65 - i) (65 - i))).run Tryd.prog W = .ok (.string ⟨(hxL u).toArray⟩) W := by
  have h := run_convert_bytes_back (P := Tryd.prog) W 59 9 5 ⟨g, i, none⟩ (65 - i) (hxL u) (by kernel_rfl) (by kernel_rfl) (by kernel_rfl) (fun j hj => by
    have e := (hB.cell (i + j)).trans (hc j hj)
    rw [List.getD_eq_getElem?_getD, List.getElem?_eq_getElem hj] at e
    have ea : (⟨g, i, none⟩ : Addr).add j = ⟨g, i + j, none⟩ := by unfold Addr.add; split <;> simp_all
    rw [ea]
    exact e)
  rw [hl] at h
  exact h
set_option maxRecDepth 4000 in
theorem fmtBits (u : Nat) (w : World) (hu : u < 65536) (hT : TzT w) :
    Calls Tryd.prog 109 #[.slice none 0 0, .int .u64 u, .int .i64 16, .bool false, .bool false] w fun e w' => ∃ v, e = .returned (.tuple #[v, .string ⟨(hxL u).toArray⟩]) ∧ Below w.heap.size w w' := by
  have T := Lib.hid (fun W (hb : Below w.heap.size w W) => tz_16 W (hT.below hb))
  clear hT
  go_enter Tryd.func109, Tryd.ntmps109
  go_wp2_with (first | (go_at_call 123; (with_reducible refine (isPow16 _).mono ?_); rintro e w' ⟨rfl, rfl⟩) | (go_at_call 124; (with_reducible refine (T.out _ ((Below.refl _ _).alloc (Nat.le_refl _) _)).mono ?_); rintro e w' ⟨rfl, rfl⟩))
  have hL4 := Lib.hid (hxL_pad 3 u (by omega)).1
  go_loopw [1, 13] (fun uu ii wr => ∃ (v i : Nat) (cs : Array Value) (D : List UInt8), uu = .int .u64 v ∧ ii = .int .i64 ((i : Int) + 1) ∧ v ≤ u ∧ i < 65 ∧ Blk65 wr w.heap.size cs ∧ Hid (cs.size = 65 ∧ D.length + i = 64 ∧ (∀ j, j < D.length → cs[i + 1 + j]? = some (.int .u8 ((D.getD j 0).toNat : Int))) ∧ hxL v ++ D = hxL u) ∧ Below w.heap.size w wr) (fun uu _ _ => (intOf uu).toNat)
  case atStart => exact ⟨u, 64, _, [], rfl, rfl, Nat.le_refl _, by omega, Blk65.new w _, Lib.hid ⟨by decide +kernel, by simp, fun j hj => by simp at hj, by simp⟩, (Below.refl _ _).alloc (Nat.le_refl _) _⟩
  case round =>
    obtain ⟨v, i, cs, D, rfl, rfl, hv, hi, hB, hh, hb⟩ := hrel
    obtain ⟨hcs, hDl, hDc, hD⟩ := hh.out
    have hlen := congrArg List.length hD
    rw [List.length_append] at hlen
    have hl4 := hL4.out
    have hvl : 1 ≤ (hxL v).length := by
      by_cases h : v < 16
      · rw [hxL_small h]; simp
      · rw [hxL_step h]; simp
    have hi61 : 61 ≤ i := by omega
    have hci : i < cs.size := by omega
    have x1 := hB.cell i
    rw [Array.getElem?_eq_getElem hci] at x1
    have fz := hB.frozen i
    by_cases h : v < 16
    · have hi16 : (v : Int) < 16 := by omega
      have I := fun W => ix v h W
      have hd : [hxd v] ++ D = hxL u := by rw [← hxL_small h]; exact hD
      have B2 := hB.set_ i (.int .u8 ((hxd v).toNat : Int))
      have hc2 : ∀ j, j < ([hxd v] ++ D).length → (cs.setIfInBounds i (.int .u8 ((hxd v).toNat : Int)))[i + j]? = some (.int .u8 ((([hxd v] ++ D).getD j 0).toNat : Int)) := by
        intro j hj
        rcases j with _ | j
        · rw [Nat.add_zero, Array.getElem?_setIfInBounds_self_of_lt hci]; rfl
        · rw [Array.getElem?_setIfInBounds_ne (by omega), show i + (j + 1) = i + 1 + j by omega, hDc j (by simp at hj; omega)]
          rfl
      rw [hd] at hc2
      have hU : (hxL u).length = 65 - i := by rw [← hd]; simp; omega
      have hcv := cv65 w.heap.size i u _ _ B2 hU hc2
      have hsl := fun W => sl65 w.heap.size i hi W
      clear hlen hD hDl hDc hh hd hcs B2 hc2 hU hvl hl4 hL4 x1
      have x1 : ∃ c, wr.cell? ⟨w.heap.size, i, none⟩ = some c := ⟨_, by rw [hB.cell i]; exact Array.getElem?_eq_getElem hci⟩
      obtain ⟨c, x1⟩ := x1
      generalize hxd v = d at *
      have hv9 := Lib.hid hv
      clear hB hv hu h
      go_wp2
      exact bodyPost_ret (v := .tuple #[.slice none 0 0, .string ⟨(hxL u).toArray⟩]) (by simp [results, Tryd.results109, go_sem]) rfl ⟨⟨_, rfl⟩, hb.setCell (Nat.le_refl _) _⟩
    · have e16 : bits .and .u64 (v : Int) 15 = (v : Int) % 16 := by
        have := u64_and_nat v 15 (by omega) (by decide)
        have e : v &&& 15 = v % 16 := Nat.and_two_pow_sub_one_eq_mod v 4
        rw [e] at this
        exact this.trans (by omega)
      have I := fun W => ix (v % 16) (by omega) W
      rw [show ((v % 16 : Nat) : Int) = (v : Int) % 16 by omega] at I
      have hd : hxL (v / 16) ++ (hxd (v % 16) :: D) = hxL u := by rw [← hD, hxL_step h, List.append_assoc]; rfl
      have B2 := Lib.hid (hB.set_ i (.int .u8 ((hxd (v % 16)).toNat : Int)))
      have hc2 : ∀ j, j < (hxd (v % 16) :: D).length → (cs.setIfInBounds i (.int .u8 ((hxd (v % 16)).toNat : Int)))[i + j]? = some (.int .u8 (((hxd (v % 16) :: D).getD j 0).toNat : Int)) := by
        intro j hj
        rcases j with _ | j
        · rw [Nat.add_zero, Array.getElem?_setIfInBounds_self_of_lt hci]; rfl
        · rw [Array.getElem?_setIfInBounds_ne (by omega), show i + (j + 1) = i + 1 + j by omega, hDc j (by simp at hj; omega)]
          rfl
      have hnx := Lib.hid (show (cs.setIfInBounds i (.int .u8 ((hxd (v % 16)).toNat : Int))).size = 65 ∧ (hxd (v % 16) :: D).length + (i - 1) = 64 ∧ (∀ j, j < (hxd (v % 16) :: D).length → (cs.setIfInBounds i (.int .u8 ((hxd (v % 16)).toNat : Int)))[i - 1 + 1 + j]? = some (.int .u8 (((hxd (v % 16) :: D).getD j 0).toNat : Int))) ∧ hxL (v / 16) ++ (hxd (v % 16) :: D) = hxL u from
        ⟨by simpa using hcs, by simp; omega, by rw [show i - 1 + 1 = i by omega]; exact hc2, hd⟩)
      clear hlen hD hDl hDc hh hd hcs hc2 hvl hl4 hB
      generalize hxd (v % 16) = d at *
      generalize cs[i]'hci = c at x1
      have hv9 := Lib.hid hv
      have hi16 : ¬ (v : Int) < 16 := by omega
      clear hv hu h
      go_wp2
      have hv := hv9.out
      refine ⟨⟨v / 16, i - 1, _, d :: D, by congr 1, by congr 1; omega, by omega, by omega, B2.out, hnx, hb.setCell (Nat.le_refl _) _⟩, by simp [intOf]; omega⟩
end Go.Proofs.YtbghbfgbpdppeaaDoor
