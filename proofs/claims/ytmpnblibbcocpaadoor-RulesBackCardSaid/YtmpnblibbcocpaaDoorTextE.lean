
/- A list of numbers as the program reads it; signs' bytes as a text (utext.Put). -/
import Derived.Test.YtmpnblibbcocpaaDoorTextC
namespace Go.Proofs.YtmpnblibbcocpaaDoor
open Go.ChangeShapes Go.WideShapes Go.ChangeAt Go.RowKit Go.Lib

/-- the slice reads as these numbers -/
def Rd (w : World) (v : Value) (zs : List Int) : Prop :=
  ∃ A c, v = .slice A zs.length c ∧ zs.length ≤ c ∧ (0 < zs.length → ∃ b o, A = some ⟨b, o, none⟩ ∧ b < w.heap.size ∧ ∀ j, j < zs.length → w.cell? ⟨b, o + j, none⟩ = some (.int .i64 (zs.getD j 0)))
theorem Rd.below {w w' : World} {v : Value} {zs : List Int} (h : Rd w v zs) (hb : Below w.heap.size w w') : Rd w' v zs := by
  obtain ⟨A, c, rfl, hc, h2⟩ := h
  refine ⟨A, c, rfl, hc, fun h0 => ?_⟩
  obtain ⟨b, o, rfl, hlt, hcell⟩ := h2 h0
  exact ⟨b, o, rfl, by have := hb.size; omega, fun j hj => (hb.cell (p := ⟨b, o + j, none⟩) hlt).trans (hcell j hj)⟩
theorem Rd.of_own {w : World} {base : Nat} {v : Value} {l : List Nat} (h : Own w base v l) : Rd w v (l.map fun (c : Nat) => (c : Int)) := by
  rcases h with ⟨rfl, rfl⟩ | ⟨g, cap, cur, rfl, hb, hg, hn, hc, hs, ht⟩
  · exact ⟨none, 0, rfl, Nat.le_refl _, fun h => by simp at h⟩
  · refine ⟨_, cap, by rw [List.length_map], by rw [List.length_map]; exact hn, fun _ => ⟨g, 0, rfl, (Array.getElem?_eq_some_iff.1 hg).1, fun j hj => ?_⟩⟩
    rw [List.length_map] at hj
    rw [Nat.zero_add, cell_of_row w g j cur 3 (0, 0) hg, ← Array.getElem?_toList]
    have e1 : (cur.toList.take l.length)[j]? = (cl l)[j]? := by rw [ht]
    rw [List.getElem?_take_of_lt hj] at e1
    rw [e1]
    simp [cl, List.getD, hj]

set_option maxRecDepth 100000 in
theorem conv_own {w : World} {base n : Nat} {v : Value} {bs : List UInt8} (h : w.ownsRow base 5 1 v n (bc bs)) : (convert 70 9 v).run Tryd.prog w = .ok (.string ⟨bs.toArray⟩) w := by
  have hl : bs.length = n := by simpa [bc] using h.1
  rcases h.2 with ⟨rfl, h0⟩ | ⟨g, cap, cur, rfl, hb, hg, hn, hc, hs, ht⟩
  · have : bs = [] := List.eq_nil_of_length_eq_zero (by omega)
    subst this
    exact run_convert_bytes_nil w 70 5 Tryd.underlying70 Tryd.underlying5 0 0 9 Tryd.underlying9
  · have e := run_convert_bytes_arg w 70 5 Tryd.underlying70 Tryd.underlying5 g 0 n cap (bs.map fun b => (b.toNat : Int)) (by simpa using hl) (fun i hi => by
      rw [Nat.zero_add, cell_of_row w g i cur 5 (0, 0) hg, ← Array.getElem?_toList]
      have e1 : (cur.toList.take (n * 1))[i]? = (bc bs)[i]? := by rw [ht]
      rw [List.getElem?_take_of_lt (by omega)] at e1
      rw [e1]
      have hib : i < bs.length := by omega
      simp [bc, List.getD, hib]) 9 Tryd.underlying9
    have e2 : strOfNums (bs.map fun b => (b.toNat : Int)) = ⟨bs.toArray⟩ := by
      unfold strOfNums
      rw [List.map_map]
      congr 2
      exact (List.map_congr_left (fun b _ => by simp)).trans (List.map_id bs)
    rw [e2] at e
    exact e

theorem jn_take {l : List Nat} {k : Nat} (h : k < l.length) : jn (l.take (k + 1)) = jn (l.take k) ++ oneB (l.getD k 0) := by
  unfold jn
  rw [List.take_add_one, List.getElem?_eq_getElem h, List.map_append, List.flatten_append]
  congr 1
  simp [List.getD, h]
theorem one_len (c : Nat) : (oneB c).length ≤ 4 := by
  unfold oneB
  repeat' split
  all_goals simp
theorem jn_len (l : List Nat) : (jn l).length ≤ 4 * l.length := by
  induction l with
  | nil => simp [jn]
  | cons c l ih =>
    have := one_len c
    unfold jn at *
    simp only [List.map_cons, List.flatten_cons, List.length_append, List.length_cons]
    omega

set_option maxRecDepth 100000 in
theorem Put_any (v : Value) (l : List Nat) (w : World) (hr : Rd w v (l.map fun (c : Nat) => (c : Int))) (hl : l.length ≤ 1000000) :
    Calls Tryd.prog 16 #[v] w fun e w' => e = .returned (.string ⟨(jn l).toArray⟩) ∧ Below w.heap.size w w' := by
  obtain ⟨A, c, rfl, hc, h2⟩ := hr
  rw [List.length_map] at *
  go_enter Tryd.func16, Tryd.ntmps16
  go_wp2_with fail
  go_loopw [3, 8] (fun v i wr => ∃ k : Nat, k ≤ l.length ∧ i = .int .i64 k ∧ wr.ownsRow w.heap.size 5 1 v (jn (l.take k)).length (bc (jn (l.take k))) ∧ Below w.heap.size w wr) (fun _ i _ => l.length - (RowKit.intOf i).toNat)
  case atStart => exact ⟨0, Nat.zero_le _, rfl, World.ownsRow_nil _ _ _ _, Below.refl _ _⟩
  case round =>
    obtain ⟨k, hk, rfl, hown, hb⟩ := hrel
    by_cases h : k < l.length
    · obtain ⟨b, o, rfl, hlt, hcell⟩ := h2 (by omega)
      have hcx : wr.cell? ⟨b, o + k, none⟩ = some (.int .i64 (l.getD k 0 : Nat)) := by
        rw [hb.cell (p := ⟨b, o + k, none⟩) hlt, hcell k h]
        simp [List.getD, h]
      have hj := jn_len (l.take k)
      have hj2 : (l.take k).length ≤ k := by simp; omega
      have C := Lib.hid (put_any _ _ w.heap.size (l.getD k 0) _ wr hown (by omega) hb.size)
      have ht := Lib.hid (jn_take h)
      clear hcell h2 hown
      generalize l.getD k 0 = x at *
      go_wp2_with (go_at_call 32; refine C.out.mono ?_; rintro e w1 ⟨v1, rfl, hown1, hb1⟩)
      refine ⟨⟨k + 1, by omega, rfl, ?_, hb.trans hb1⟩, ?_⟩
      · rw [ht.out, List.length_append]
        simpa [bc] using hown1
      · simp [RowKit.intOf]; omega
    · have hkl : k = l.length := by omega
      subst hkl
      rw [List.take_length] at hown
      have D := conv_own hown
      clear hown h2
      go_wp2
      go_ret
      exact ⟨rfl, hb⟩
end Go.Proofs.YtmpnblibbcocpaaDoor
