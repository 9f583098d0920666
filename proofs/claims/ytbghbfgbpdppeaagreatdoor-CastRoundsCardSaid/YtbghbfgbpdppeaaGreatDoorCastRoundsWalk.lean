
/- CastRounds is true of every input: the walk, where the listed variables stand. -/
import Derived.Test.YtbghbfgbpdppeaaGreatDoorCastF
import Derived.Test.YtbghbfgbpdppeaaGreatDoorCastG
import Derived.Test.YtbghbfgbpdppeaaGreatDoorCastJ
namespace Go.Proofs.YtbghbfgbpdppeaaGreatDoor
open Go.ChangeShapes Go.WideShapes Go.ChangeAt Go.RowKit
set_option linter.unusedVariables false


set_option maxHeartbeats 1000000 in
set_option maxRecDepth 100000 in
theorem rounds_pos (n ahead behind noughts : Int) (hx : fits n = true) (hs : 0 ≤ n) (w : World) (hT : TabsX w) :
    Calls Tryz.prog 3 #[.int .i64 n, .int .i64 ahead, .int .i64 behind, .int .i64 noughts] w fun e w' => e = .returned (.bool true) ∧ Below w.heap.size w w' := by
  have K := Lib.hid (fun W (hb : Below w.heap.size w W) => awake_any W (hT.below hb))
  obtain ⟨N, hN, eN⟩ := and7 noughts
  obtain ⟨A, hA, eA⟩ := and7 ahead
  obtain ⟨B, hB, eB⟩ := and7 behind
  have hb := bd hx
  have hsl := Lib.itoa_length_le n hb.1 hb.2
  have C1 := Lib.hid (fun W => rtext_any n W hx)
  have C3 := Lib.hid (fun W (hb : Below w.heap.size w W) => to_int_text n W hx (hT.below hb))
  have C4 := Lib.hid (fun W => to_int_bool n W)
  have hT' := Lib.hid hT
  obtain ⟨S, hS⟩ : ∃ S, S = Lib.itoa n := ⟨_, rfl⟩
  rw [← hS] at C1 C3 hsl
  have hS' := Lib.hid hS
  have hx' := Lib.hid hx
  have hsl1 : 1 ≤ S.length := by
    rw [hS]
    unfold Lib.itoa
    split
    · simp
    · first
      | exact List.length_pos_iff.2 (dec_all n.toNat).2.2
      | omega
  have hbt : ((b2t (n != 0) == 1) == (n != 0)) = true := by cases n != 0 <;> rfl
  clear hS hx hT hb
  go_enter Tryz.func3, Tryz.ntmps3
  go_wp2_with (go_at_call 7; (with_reducible refine (C1.out _).mono ?_); rintro e w0 ⟨rfl, rfl⟩)
  go_loop [10, 11] (fun z i => ∃ (j : Nat) (l : List UInt8), j ≤ N ∧ l.length ≤ 7 ∧ i = .int .i64 j ∧ z = .string ⟨l.toArray⟩ ∧ Hid (l = zs j)) (fun _ i => N - (intOf i).toNat)
  case atStart => exact ⟨0, [], Nat.zero_le _, by simp, rfl, rfl, Lib.hid rfl⟩
  case round =>
    obtain ⟨j, l, hj, hl, rfl, rfl, hlz⟩ := hrel
    by_cases hlt : j < N
    · have hl7 : l.length ≤ 6 := by rw [hlz.out]; simp; omega
      have hnx := Lib.hid (show l ++ [48] = zs (j + 1) by rw [hlz.out, zs, zs, List.replicate_succ'])
      go_wp2
      go_round
      case rel => exact ⟨j + 1, l ++ [48], by omega, by simp; omega, by go_num, by rw [ByteArray.mk_append_mk], hnx⟩
      case measure => simp [intOf]; omega
    · obtain rfl : N = j := by omega
      have hlN := hlz
      clear hlz
      go_wp2_with fail
      go_loop [12, 13] (fun t i => ∃ (j : Nat) (tb : ByteArray), j ≤ A ∧ tb.size ≤ 29 + j ∧ i = .int .i64 j ∧ t = .string tb ∧ Hid (bl tb = bks j ++ core n N)) (fun _ i => A - (intOf i).toNat)
      case atStart =>
        refine ⟨0, _, Nat.zero_le _, ?_, rfl, rfl, Lib.hid ?_⟩
        · rw [sz_app, bszl, bszl]; omega
        · rw [bl_app, bl_lit, bl_lit, hlN.out, hS'.out]; unfold core Lib.itoa; rw [if_neg (by omega), if_neg (by omega)]; rfl
      case round =>
        obtain ⟨j, tb, hj, hl2, rfl, rfl, htb⟩ := hrel
        by_cases hlt : j < A
        · have hnx := Lib.hid (show bl (⟨#[32]⟩ ++ tb) = bks (j + 1) ++ core n N by rw [bl_app, htb.out, bl_lit, bks, bks, List.replicate_succ]; rfl)
          go_wp2
          go_round
          case rel => exact ⟨j + 1, ⟨#[32]⟩ ++ tb, by omega, by rw [sz_app, bsz]; omega, by go_num, rfl, hnx⟩
          case measure => simp [intOf]; omega
        · obtain rfl : A = j := by omega
          have htA := htb
          clear htb
          go_wp2_with fail
          go_loop [12, 14] (fun t i => ∃ (j : Nat) (tb : ByteArray), j ≤ B ∧ tb.size ≤ 36 + j ∧ i = .int .i64 j ∧ t = .string tb ∧ Hid (bl tb = bks A ++ core n N ++ bks j)) (fun _ i => B - (intOf i).toNat)
          case atStart => exact ⟨0, tb, Nat.zero_le _, by omega, rfl, rfl, Lib.hid (by rw [htA.out]; simp)⟩
          case round =>
            obtain ⟨j, tc, hj, hl3, rfl, rfl, htc⟩ := hrel
            by_cases hlt : j < B
            · have hnx := Lib.hid (show bl (tc ++ ⟨#[32]⟩) = bks A ++ core n N ++ bks (j + 1) by rw [bl_app, htc.out, bl_lit, List.append_assoc, show bks (j + 1) = bks j ++ [32] from List.replicate_succ'])
              go_wp2
              go_round
              case rel => exact ⟨j + 1, tc ++ ⟨#[32]⟩, by omega, by rw [sz_app, bsz]; omega, by go_num, rfl, hnx⟩
              case measure => simp [intOf]; omega
            · obtain rfl : B = j := by omega
              have htB : bl tc = bks A ++ core n N ++ bks B := htc.out
              obtain ⟨C2, C5⟩ := rounds_pre n tc A N B w hx'.out hT'.out htB (by omega)
              replace C2 := Lib.hid C2
              replace C5 := Lib.hid C5
              clear htB htc htA hlN
              go_wp2_with (first
                | (go_at_call 9; (with_reducible refine (rvtext_any tc w).mono ?_); rintro e w1 ⟨rfl, hb1⟩)
                | (go_at_call 8; (with_reducible refine (C2.out w1 hb1).mono ?_); rintro e w2 ⟨rfl, hb2⟩; have hB2 := btr hb1 hb2; clear hb1 hb2)
                | (go_at_call 8; (with_reducible refine (C3.out _ (btr hB2 (balloc _ _))).mono ?_); rintro e w3 ⟨rfl, hb3⟩; have q0 := (hb3.cell (p := ⟨w2.heap.size, 0, none⟩) (by simp)).trans (by simp [go_sem]; rfl); have q1 := (hb3.cell (p := ⟨w2.heap.size, 1, none⟩) (by simp)).trans (by simp [go_sem]; rfl); have q2 := (hb3.cell (p := ⟨w2.heap.size, 2, none⟩) (by simp)).trans (by simp [go_sem]; rfl); have z3 := (show w2.heap.size < w3.heap.size by have := hb3.size; simp at this; omega); have hB3 := btr hB2 (bafter hb3); clear hb3 hB2)
                | (go_at_call 8; (with_reducible refine (C4.out _).mono ?_); rintro e w4 ⟨rfl, hb4⟩; have r1 := (hb4.cell (p := ⟨w2.heap.size, 1, none⟩) (by simp; omega)).trans ((World.cell?_alloc_old _ _ _ (by simp only; omega)).trans q1); have r2 := (hb4.cell (p := ⟨w3.heap.size, 2, none⟩) (by simp)).trans (by simp [go_sem]; rfl); have z4 := (show w3.heap.size < w4.heap.size by have := hb4.size; simp at this; omega); have hB4 := btr hB3 (bafter hb4); clear hb4 hB3 q0 q1 q2)
                | (go_at_call 9; (with_reducible refine (rvtext_any _ _).mono ?_); rintro e w5 ⟨rfl, hb5⟩)
                | (go_at_call 8; (with_reducible refine (C5.out w5 (btr hB4 (bafter hb5))).mono ?_); rintro e w6 ⟨rfl, hb6⟩; have hb7 := btr hb5 hb6; have s1 := (hb7.cell (p := ⟨w2.heap.size, 1, none⟩) (by simp; omega)).trans ((World.cell?_alloc_old _ _ _ (by simp only; omega)).trans r1); have s2 := (hb7.cell (p := ⟨w3.heap.size, 2, none⟩) (by simp; omega)).trans ((World.cell?_alloc_old _ _ _ (by simp only; omega)).trans r2); have s3 := (hb7.cell (p := ⟨w4.heap.size, 1, none⟩) (by simp)).trans (by simp [go_sem]; rfl); have z6 := (show w4.heap.size < w6.heap.size by have := hb7.size; simp at this; omega); have z7 := (show w3.heap.size < w6.heap.size by omega); have z8 := (show w2.heap.size < w6.heap.size by omega); have hB6 := btr hB4 (bafter hb7); clear hb5 hb6 hb7 hB4 r1 r2)
                | (go_at_call 10; (with_reducible refine (K.out _ (btr hB6 (balloc _ _))).mono ?_); rintro e w9 ⟨rfl, hb9⟩))
              go_ret
              exact ⟨rfl, btr (btr hB6 (balloc _ _)) hb9⟩

set_option maxHeartbeats 1000000 in
set_option maxRecDepth 100000 in
theorem rounds_neg (n ahead behind noughts : Int) (hx : fits n = true) (hs : n < 0) (w : World) (hT : TabsX w) :
    Calls Tryz.prog 3 #[.int .i64 n, .int .i64 ahead, .int .i64 behind, .int .i64 noughts] w fun e w' => e = .returned (.bool true) ∧ Below w.heap.size w w' := by
  have K := Lib.hid (fun W (hb : Below w.heap.size w W) => awake_any W (hT.below hb))
  obtain ⟨N, hN, eN⟩ := and7 noughts
  obtain ⟨A, hA, eA⟩ := and7 ahead
  obtain ⟨B, hB, eB⟩ := and7 behind
  have hb := bd hx
  have hsl := Lib.itoa_length_le n hb.1 hb.2
  have C1 := Lib.hid (fun W => rtext_any n W hx)
  have C3 := Lib.hid (fun W (hb : Below w.heap.size w W) => to_int_text n W hx (hT.below hb))
  have C4 := Lib.hid (fun W => to_int_bool n W)
  have hT' := Lib.hid hT
  obtain ⟨S, hS⟩ : ∃ S, S = Lib.itoa n := ⟨_, rfl⟩
  rw [← hS] at C1 C3 hsl
  have hS' := Lib.hid hS
  have hx' := Lib.hid hx
  have hsl1 : 1 ≤ S.length := by
    rw [hS]
    unfold Lib.itoa
    split
    · simp
    · first
      | exact List.length_pos_iff.2 (dec_all n.toNat).2.2
      | omega
  have hbt : ((b2t (n != 0) == 1) == (n != 0)) = true := by cases n != 0 <;> rfl
  clear hS hx hT hb
  go_enter Tryz.func3, Tryz.ntmps3
  go_wp2_with (go_at_call 7; (with_reducible refine (C1.out _).mono ?_); rintro e w0 ⟨rfl, rfl⟩)
  go_loop [10, 11] (fun z i => ∃ (j : Nat) (l : List UInt8), j ≤ N ∧ l.length ≤ 7 ∧ i = .int .i64 j ∧ z = .string ⟨l.toArray⟩ ∧ Hid (l = zs j)) (fun _ i => N - (intOf i).toNat)
  case atStart => exact ⟨0, [], Nat.zero_le _, by simp, rfl, rfl, Lib.hid rfl⟩
  case round =>
    obtain ⟨j, l, hj, hl, rfl, rfl, hlz⟩ := hrel
    by_cases hlt : j < N
    · have hl7 : l.length ≤ 6 := by rw [hlz.out]; simp; omega
      have hnx := Lib.hid (show l ++ [48] = zs (j + 1) by rw [hlz.out, zs, zs, List.replicate_succ'])
      go_wp2
      go_round
      case rel => exact ⟨j + 1, l ++ [48], by omega, by simp; omega, by go_num, by rw [ByteArray.mk_append_mk], hnx⟩
      case measure => simp [intOf]; omega
    · obtain rfl : N = j := by omega
      have hlN := hlz
      clear hlz
      go_wp2_with fail
      go_loop [12, 13] (fun t i => ∃ (j : Nat) (tb : ByteArray), j ≤ A ∧ tb.size ≤ 29 + j ∧ i = .int .i64 j ∧ t = .string tb ∧ Hid (bl tb = bks j ++ core n N)) (fun _ i => A - (intOf i).toNat)
      case atStart =>
        refine ⟨0, _, Nat.zero_le _, ?_, rfl, rfl, Lib.hid ?_⟩
        · rw [sz_app, sz_app, bsz, bszl, ext_l, bszl, List.length_drop]; omega
        · rw [ext_l, bl_app, bl_app, bl_lit, bl_lit, bl_lit, hlN.out, hS'.out]; unfold core Lib.itoa; rw [if_pos hs, if_pos hs]; simp
      case round =>
        obtain ⟨j, tb, hj, hl2, rfl, rfl, htb⟩ := hrel
        by_cases hlt : j < A
        · have hnx := Lib.hid (show bl (⟨#[32]⟩ ++ tb) = bks (j + 1) ++ core n N by rw [bl_app, htb.out, bl_lit, bks, bks, List.replicate_succ]; rfl)
          go_wp2
          go_round
          case rel => exact ⟨j + 1, ⟨#[32]⟩ ++ tb, by omega, by rw [sz_app, bsz]; omega, by go_num, rfl, hnx⟩
          case measure => simp [intOf]; omega
        · obtain rfl : A = j := by omega
          have htA := htb
          clear htb
          go_wp2_with fail
          go_loop [12, 14] (fun t i => ∃ (j : Nat) (tb : ByteArray), j ≤ B ∧ tb.size ≤ 36 + j ∧ i = .int .i64 j ∧ t = .string tb ∧ Hid (bl tb = bks A ++ core n N ++ bks j)) (fun _ i => B - (intOf i).toNat)
          case atStart => exact ⟨0, tb, Nat.zero_le _, by omega, rfl, rfl, Lib.hid (by rw [htA.out]; simp)⟩
          case round =>
            obtain ⟨j, tc, hj, hl3, rfl, rfl, htc⟩ := hrel
            by_cases hlt : j < B
            · have hnx := Lib.hid (show bl (tc ++ ⟨#[32]⟩) = bks A ++ core n N ++ bks (j + 1) by rw [bl_app, htc.out, bl_lit, List.append_assoc, show bks (j + 1) = bks j ++ [32] from List.replicate_succ'])
              go_wp2
              go_round
              case rel => exact ⟨j + 1, tc ++ ⟨#[32]⟩, by omega, by rw [sz_app, bsz]; omega, by go_num, rfl, hnx⟩
              case measure => simp [intOf]; omega
            · obtain rfl : B = j := by omega
              have htB : bl tc = bks A ++ core n N ++ bks B := htc.out
              obtain ⟨C2, C5⟩ := rounds_pre n tc A N B w hx'.out hT'.out htB (by omega)
              replace C2 := Lib.hid C2
              replace C5 := Lib.hid C5
              clear htB htc htA hlN
              go_wp2_with (first
                | (go_at_call 9; (with_reducible refine (rvtext_any tc w).mono ?_); rintro e w1 ⟨rfl, hb1⟩)
                | (go_at_call 8; (with_reducible refine (C2.out w1 hb1).mono ?_); rintro e w2 ⟨rfl, hb2⟩; have hB2 := btr hb1 hb2; clear hb1 hb2)
                | (go_at_call 8; (with_reducible refine (C3.out _ (btr hB2 (balloc _ _))).mono ?_); rintro e w3 ⟨rfl, hb3⟩; have q0 := (hb3.cell (p := ⟨w2.heap.size, 0, none⟩) (by simp)).trans (by simp [go_sem]; rfl); have q1 := (hb3.cell (p := ⟨w2.heap.size, 1, none⟩) (by simp)).trans (by simp [go_sem]; rfl); have q2 := (hb3.cell (p := ⟨w2.heap.size, 2, none⟩) (by simp)).trans (by simp [go_sem]; rfl); have z3 := (show w2.heap.size < w3.heap.size by have := hb3.size; simp at this; omega); have hB3 := btr hB2 (bafter hb3); clear hb3 hB2)
                | (go_at_call 8; (with_reducible refine (C4.out _).mono ?_); rintro e w4 ⟨rfl, hb4⟩; have r1 := (hb4.cell (p := ⟨w2.heap.size, 1, none⟩) (by simp; omega)).trans ((World.cell?_alloc_old _ _ _ (by simp only; omega)).trans q1); have r2 := (hb4.cell (p := ⟨w3.heap.size, 2, none⟩) (by simp)).trans (by simp [go_sem]; rfl); have z4 := (show w3.heap.size < w4.heap.size by have := hb4.size; simp at this; omega); have hB4 := btr hB3 (bafter hb4); clear hb4 hB3 q0 q1 q2)
                | (go_at_call 9; (with_reducible refine (rvtext_any _ _).mono ?_); rintro e w5 ⟨rfl, hb5⟩)
                | (go_at_call 8; (with_reducible refine (C5.out w5 (btr hB4 (bafter hb5))).mono ?_); rintro e w6 ⟨rfl, hb6⟩; have hb7 := btr hb5 hb6; have s1 := (hb7.cell (p := ⟨w2.heap.size, 1, none⟩) (by simp; omega)).trans ((World.cell?_alloc_old _ _ _ (by simp only; omega)).trans r1); have s2 := (hb7.cell (p := ⟨w3.heap.size, 2, none⟩) (by simp; omega)).trans ((World.cell?_alloc_old _ _ _ (by simp only; omega)).trans r2); have s3 := (hb7.cell (p := ⟨w4.heap.size, 1, none⟩) (by simp)).trans (by simp [go_sem]; rfl); have z6 := (show w4.heap.size < w6.heap.size by have := hb7.size; simp at this; omega); have z7 := (show w3.heap.size < w6.heap.size by omega); have z8 := (show w2.heap.size < w6.heap.size by omega); have hB6 := btr hB4 (bafter hb7); clear hb5 hb6 hb7 hB4 r1 r2)
                | (go_at_call 10; (with_reducible refine (K.out _ (btr hB6 (balloc _ _))).mono ?_); rintro e w9 ⟨rfl, hb9⟩))
              go_ret
              exact ⟨rfl, btr (btr hB6 (balloc _ _)) hb9⟩

theorem walk_CastRounds (n ahead behind noughts : Int) (wn : (Lit.int .i64 n).wf = true) (_w1 : (Lit.int .i64 ahead).wf = true) (_w2 : (Lit.int .i64 behind).wf = true) (_w3 : (Lit.int .i64 noughts).wf = true) (w : World) (hT : TabsX w) :
    Calls Tryz.prog 3 #[.int .i64 n, .int .i64 ahead, .int .i64 behind, .int .i64 noughts] w fun e w' => e = .returned (.bool true) ∧ Below w.heap.size w w' := by
  have hx := fits_wf wn
  by_cases h : 0 ≤ n
  · exact rounds_pos n ahead behind noughts hx h w hT
  · exact rounds_neg n ahead behind noughts hx (by omega) w hT
end Go.Proofs.YtbghbfgbpdppeaaGreatDoor
