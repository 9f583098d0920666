
/- The document's signs of a text (umlautref1.Sign, Signs) and its look whether two lists are one (SameInts): what they return. -/
import Derived.Test.YtmpnblibbcocpaaDoorTextD
import Derived.Test.YtmpnblibbcocpaaDoorTextG
namespace Go.Proofs.YtmpnblibbcocpaaDoor
open Go.ChangeShapes Go.WideShapes Go.ChangeAt Go.RowKit Go.Lib
set_option linter.unusedVariables false

theorem rsign_any (s : ByteArray) (w : World) (hs : 0 < s.size) :
    Calls Tryd.prog 35 #[.string s] w fun e w' => e = .returned (.tuple #[.int .i64 (sg (bl s)).1, .int .i64 (sg (bl s)).2]) ∧ Below w.heap.size w w' := by
  have k0 := bt_lt (bl s) 0
  obtain ⟨B0, e0⟩ : ∃ B, bt (bl s) 0 = B := ⟨_, rfl⟩
  obtain ⟨B1, e1⟩ : ∃ B, bt (bl s) 1 = B := ⟨_, rfl⟩
  obtain ⟨B2, e2⟩ : ∃ B, bt (bl s) 2 = B := ⟨_, rfl⟩
  obtain ⟨B3, e3⟩ : ∃ B, bt (bl s) 3 = B := ⟨_, rfl⟩
  rw [e0] at k0
  by_cases a : B0 < 128
  · exact rsign_a s w hs B0 B1 B2 B3 e0 e1 e2 e3 a
  by_cases a1 : B0 ≤ 193
  · exact rsign_e1 s w hs B0 B1 B2 B3 e0 e1 e2 e3 (by omega) a1
  by_cases a2 : B0 ≤ 223
  · by_cases m : 1 < s.size
    · by_cases t : 128 ≤ B1 ∧ B1 ≤ 191
      · exact rsign_b1 s w hs B0 B1 B2 B3 e0 e1 e2 e3 (by omega) a2 m t.1 t.2
      · exact rsign_b2 s w hs B0 B1 B2 B3 e0 e1 e2 e3 (by omega) a2 m (by omega)
    · exact rsign_b3 s w hs B0 B1 B2 B3 e0 e1 e2 e3 (by omega) a2 (by omega)
  by_cases a3 : B0 ≤ 239
  · by_cases m : 2 < s.size
    · by_cases t : 128 ≤ B1 ∧ B1 ≤ 191
      · by_cases t2 : 128 ≤ B2 ∧ B2 ≤ 191
        · by_cases v1 : (B0 - 224) * 4096 + (B1 - 128) * 64 + B2 - 128 < 2048
          · exact rsign_c3 s w hs B0 B1 B2 B3 e0 e1 e2 e3 (by omega) a3 m t.1 t.2 t2.1 t2.2 v1
          by_cases v2 : (B0 - 224) * 4096 + (B1 - 128) * 64 + B2 - 128 < 55296
          · exact rsign_c1 s w hs B0 B1 B2 B3 e0 e1 e2 e3 (by omega) a3 m t.1 t.2 t2.1 t2.2 (by omega) v2
          by_cases v3 : (B0 - 224) * 4096 + (B1 - 128) * 64 + B2 - 128 ≤ 57343
          · exact rsign_c4 s w hs B0 B1 B2 B3 e0 e1 e2 e3 (by omega) a3 m t.1 t.2 t2.1 t2.2 (by omega) v3
          · exact rsign_c2 s w hs B0 B1 B2 B3 e0 e1 e2 e3 (by omega) a3 m t.1 t.2 t2.1 t2.2 (by omega)
        · exact rsign_c5 s w hs B0 B1 B2 B3 e0 e1 e2 e3 (by omega) a3 m t.1 t.2 (by omega)
      · exact rsign_c6 s w hs B0 B1 B2 B3 e0 e1 e2 e3 (by omega) a3 m (by omega)
    · exact rsign_c7 s w hs B0 B1 B2 B3 e0 e1 e2 e3 (by omega) a3 (by omega)
  by_cases a4 : B0 ≤ 244
  · by_cases m : 3 < s.size
    · by_cases t : 128 ≤ B1 ∧ B1 ≤ 191
      · by_cases t2 : 128 ≤ B2 ∧ B2 ≤ 191
        · by_cases t3 : 128 ≤ B3 ∧ B3 ≤ 191
          · by_cases v1 : (B0 - 240) * 262144 + (B1 - 128) * 4096 + (B2 - 128) * 64 + B3 - 128 < 65536
            · exact rsign_d2 s w hs B0 B1 B2 B3 e0 e1 e2 e3 (by omega) a4 m t.1 t.2 t2.1 t2.2 t3.1 t3.2 v1
            by_cases v2 : (B0 - 240) * 262144 + (B1 - 128) * 4096 + (B2 - 128) * 64 + B3 - 128 ≤ 1114111
            · exact rsign_d1 s w hs B0 B1 B2 B3 e0 e1 e2 e3 (by omega) a4 m t.1 t.2 t2.1 t2.2 t3.1 t3.2 (by omega) v2
            · exact rsign_d3 s w hs B0 B1 B2 B3 e0 e1 e2 e3 (by omega) a4 m t.1 t.2 t2.1 t2.2 t3.1 t3.2 (by omega)
          · exact rsign_d4 s w hs B0 B1 B2 B3 e0 e1 e2 e3 (by omega) a4 m t.1 t.2 t2.1 t2.2 (by omega)
        · exact rsign_d5 s w hs B0 B1 B2 B3 e0 e1 e2 e3 (by omega) a4 m t.1 t.2 (by omega)
      · exact rsign_d6 s w hs B0 B1 B2 B3 e0 e1 e2 e3 (by omega) a4 m (by omega)
    · exact rsign_d7 s w hs B0 B1 B2 B3 e0 e1 e2 e3 (by omega) a4 (by omega)
  · exact rsign_e2 s w hs B0 B1 B2 B3 e0 e1 e2 e3 (by omega)

theorem str_nil (t : ByteArray) : t.toList.isEmpty = decide (t.size = 0) := by
  rw [ByteArray.toList_eq, Bool.eq_iff_iff, List.isEmpty_iff, decide_eq_true_eq]
  have h := bl_len t
  constructor
  · intro e
    rw [← h]
    show t.data.toList.length = 0
    rw [e]
    rfl
  · intro e
    exact List.eq_nil_of_length_eq_zero (by rw [← e]; exact h)

set_option maxRecDepth 100000 in
theorem same_any (v1 v2 : Value) (zs ys : List Int) (w : World) (h1 : Rd w v1 zs) (h2 : Rd w v2 ys) (hl1 : zs.length ≤ 1000000) (hl2 : ys.length ≤ 1000000) :
    Calls Tryd.prog 14 #[v1, v2] w fun e w' => e = .returned (.bool (zs == ys)) ∧ Below w.heap.size w w' := by
  obtain ⟨A, c, rfl, hc, k1⟩ := h1
  obtain ⟨B, d, rfl, hd, k2⟩ := h2
  by_cases hlen : zs.length = ys.length
  · go_enter Tryd.func14, Tryd.ntmps14
    go_wp2_with fail
    go_loopw [5] (fun i wr => ∃ k : Nat, k ≤ zs.length ∧ i = .int .i64 k ∧ Below w.heap.size w wr ∧ Hid (zs.take k = ys.take k)) (fun i _ => zs.length - (RowKit.intOf i).toNat)
    case atStart => exact ⟨0, Nat.zero_le _, rfl, Below.refl _ _, Lib.hid rfl⟩
    case round =>
      obtain ⟨k, hk, rfl, hb, he⟩ := hrel
      by_cases h : k < zs.length
      · obtain ⟨b1, o1, rfl, l1, c1⟩ := k1 (by omega)
        obtain ⟨b2, o2, rfl, l2, c2⟩ := k2 (by omega)
        have x1 := (hb.cell (p := ⟨b1, o1 + k, none⟩) l1).trans (c1 k h)
        have x2 := (hb.cell (p := ⟨b2, o2 + k, none⟩) l2).trans (c2 k (by omega))
        have t1 : zs.take (k + 1) = zs.take k ++ [zs.getD k 0] := by
          rw [List.take_add_one, List.getElem?_eq_getElem h]
          simp [List.getD, h]
        have hky : k < ys.length := by omega
        have t2 : ys.take (k + 1) = ys.take k ++ [ys.getD k 0] := by
          rw [List.take_add_one, List.getElem?_eq_getElem hky]
          simp [List.getD, hky]
        have hne : Hid (zs.getD k 0 ≠ ys.getD k 0 → (zs == ys) = false) := Lib.hid (fun hn => by
          rw [beq_eq_false_iff_ne]
          exact fun e => hn (by rw [e]))
        replace t1 := Lib.hid t1
        replace t2 := Lib.hid t2
        clear c1 c2 k1 k2
        generalize zs.getD k 0 = x at *
        generalize ys.getD k 0 = y at *
        by_cases hxy : x = y
        · subst hxy
          go_wp2_with fail
          go_region
          all_goals (try go_wp2)
          refine ⟨⟨k + 1, by omega, rfl, hb.drew, Lib.hid (by rw [t1.out, t2.out, he.out])⟩, by simp [RowKit.intOf]; omega⟩
        · have hne2 := hne.out hxy
          have hxb : (x == y) = false := by rw [beq_eq_false_iff_ne]; exact hxy
          go_wp2_with fail
          go_region
          all_goals (try go_wp2)
          go_ret
          exact ⟨retb hne2.symm, hb.drew⟩
      · have hkl : k = zs.length := by omega
        subst hkl
        have hq : (zs == ys) = true := by
          rw [beq_iff_eq]
          have := he.out
          rwa [List.take_length, hlen, List.take_length] at this
        go_wp2
        go_ret
        exact ⟨retb hq.symm, hb⟩
  · have hq : (zs == ys) = false := by
      rw [beq_eq_false_iff_ne]
      exact fun e => hlen (by rw [e])
    go_enter Tryd.func14, Tryd.ntmps14
    go_wp2
    go_ret
    exact ⟨retb hq.symm, Below.refl _ _⟩
end Go.Proofs.YtmpnblibbcocpaaDoor
