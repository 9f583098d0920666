
/- The program's reading of a number to sixteen: internal/strconv.ParseUint and strconv.ParseUint of a text, at base 16 and 16 bits. Conditions: the text is not too long; where strconv's two errors are asked for, these variables stand. -/
import Derived.Test.YtbghbfgbpdppeaaDoorShelfE
import Derived.Test.YtbghbfgbpdppeaaDoorLaidX
import Derived.Test.YtbghbfgbpdppeaaDoorElemN
import Derived.Lib.ConvBytes
import Derived.Lib.ParseIntBMem
import Derived.Laws.Closers25
import Derived.Laws.Closers25b
import Derived.BigCall
import Derived.BigGuard
namespace Go.Proofs.YtbghbfgbpdppeaaDoor
open Go.ChangeShapes Go.WideShapes Go.ChangeAt Go.RowKit
set_option linter.unusedVariables false

theorem lowerZ (c : UInt8) : bits .or .u8 (c.toNat : Int) 32 = ((c ||| 32).toNat : Int) := by
  have h : ∀ k : Fin 256, bits .or .u8 ((k.val : Nat) : Int) 32 = ((UInt8.ofNat k.val ||| 32).toNat : Int) := by decide +kernel
  have := h ⟨c.toNat, c.toNat_lt⟩
  simpa using this
theorem lower_letter (c : UInt8) (h : 97 ≤ (c ||| 32).toNat ∧ (c ||| 32).toNat ≤ 102) : 57 < c.toNat ∧ c.toNat ≠ 95 := by
  have h' : ∀ k : Fin 256, 97 ≤ (UInt8.ofNat k.val ||| 32).toNat ∧ (UInt8.ofNat k.val ||| 32).toNat ≤ 102 → 57 < k.val ∧ k.val ≠ 95 := by decide +kernel
  have := h' ⟨c.toNat, c.toNat_lt⟩
  simp only [UInt8.ofNat_toNat] at this
  exact this h
theorem lower_95 (c : UInt8) (h : c.toNat = 95) : (c ||| 32).toNat = 127 := by
  have h' : ∀ k : Fin 256, k.val = 95 → (UInt8.ofNat k.val ||| 32).toNat = 127 := by decide +kernel
  have := h' ⟨c.toNat, c.toNat_lt⟩
  simp only [UInt8.ofNat_toNat] at this
  exact this h
theorem hpar_bad {acc : Nat} {c : UInt8} {r : List UInt8} (h : hval c = none) : hpar acc (c :: r) = Lib.NumEnd.syntax := by rw [hpar, h]
theorem hpar_over {acc d : Nat} {c : UInt8} {r : List UInt8} (h : hval c = some d) (h2 : 65535 < acc * 16 + d) : hpar acc (c :: r) = .range := by
  rw [hpar, h]; simp only; rw [if_pos h2]
theorem hpar_go {acc d : Nat} {c : UInt8} {r : List UInt8} (h : hval c = some d) (h2 : ¬ 65535 < acc * 16 + d) : hpar acc (c :: r) = hpar (acc * 16 + d) r := by
  rw [hpar, h]; simp only; rw [if_neg h2]

set_option maxHeartbeats 8000000 in
set_option maxRecDepth 100000 in
theorem ipu_any (t : ByteArray) (hne : t.size ≠ 0) (hmax : t.size ≤ 1000000) (w : World) :
    Calls Tryd.prog 82 #[.string t, .int .i64 16, .int .i64 16] w fun e w' => e = .returned (Lib.uintTupleM 131 65535 (hpar 0 t.data.toList)) ∧ w' = Lib.bytesWorld w 5 t := by
  have hemp : t.toList.isEmpty = false := by
    rw [← decide_eq_emptyBytes]
    exact decide_eq_false (fun h => hne (by rw [h]; rfl))
  have hcv := Lib.run_convert_string_bytes (P := Tryd.prog) w 9 59 5 t (u := .string) Tryd.underlying9 Tryd.underlying59 Tryd.underlying5
  have hB : ∀ j, j < t.size → (Lib.bytesWorld w 5 t).cell? ⟨w.heap.size, j, none⟩ = some (.int .u8 (t.data.toList.getD j 0).toNat) := fun j hj => Lib.bytesWorld_cell w 5 t j hj
  obtain ⟨W1, hW1⟩ : ∃ W1, W1 = Lib.bytesWorld w 5 t := ⟨_, rfl⟩
  rw [← hW1] at hcv hB ⊢
  clear hW1
  obtain ⟨bs, hL⟩ : ∃ bs, bs = t.data.toList := ⟨_, rfl⟩
  have hLn : bs.length = t.size := by rw [hL]; simp
  rw [← hL] at hB ⊢
  clear hL
  have hmv : IntKind.u64.wrap (IntKind.u64.wrap 65536 - 1) = 65535 := by
    rw [IntKind.wrap_u64, IntKind.wrap_u64]
    decide
  go_enter Tryd.func82, Tryd.ntmps82
  go_wp2
  go_loop [12, 13, 101] (fun vu vn vi => ∃ (k acc : Nat) (a : Int), vu = .bool false ∧ vn = .int .u64 a ∧ vi = .int .i64 k ∧ k ≤ t.size ∧ Hid (a = (acc : Int) ∧ acc ≤ 65535 ∧ hpar 0 bs = hpar acc (bs.drop k)))
    (fun _ _ vi => t.size - (intOf vi).toNat)
  case atStart => exact ⟨0, 0, 0, rfl, rfl, rfl, by omega, rfl, by omega, rfl⟩
  case round =>
    obtain ⟨k, acc, a, rfl, rfl, rfl, hk, hh⟩ := hrel
    obtain ⟨ha, hacc, hdec⟩ := hh.out
    clear hh
    have a0 : 0 ≤ a := by omega
    have a1 : a ≤ 65535 := by omega
    by_cases hkn : k < t.size
    · have hc := hB k hkn
      have hdrop : bs.drop k = bs[k]'(by omega) :: bs.drop (k + 1) := List.drop_eq_getElem_cons (by omega)
      have hget : bs.getD k 0 = bs[k]'(by omega) := by simp [List.getD, List.getElem?_eq_getElem (show k < bs.length by omega)]
      rw [hdrop] at hdec
      rw [hget] at hc
      generalize bs[k]'(by omega) = c at hc hdec
      have hc256 : c.toNat < 256 := c.toNat_lt
      clear hB hdrop hget
      by_cases hdig : 48 ≤ c.toNat ∧ c.toNat ≤ 57
      · obtain ⟨hd0, hd1⟩ := hdig
        have hv : hval c = some (c.toNat - 48) := by unfold hval; rw [if_pos ⟨hd0, hd1⟩]
        by_cases hov : 65535 < acc * 16 + (c.toNat - 48)
        · have hF := hpar_over (r := bs.drop (k + 1)) hv hov
          rw [hF] at hdec
          have iov : 65535 < a * 16 + ((c.toNat : Int) - 48) := by omega
          clear hacc hF hov ha hv
          go_wp2
          go_ret2
          first | exact ⟨rfl, rfl⟩ | exact ⟨by rw [hdec]; rfl, rfl⟩
        · have hF := hpar_go (r := bs.drop (k + 1)) hv hov
          have HN : Hid (a * 16 + ((c.toNat : Int) - 48) = ((acc * 16 + (c.toNat - 48) : Nat) : Int) ∧ acc * 16 + (c.toNat - 48) ≤ 65535 ∧ hpar 0 bs = hpar (acc * 16 + (c.toNat - 48)) (bs.drop (k + 1))) := Lib.hid ⟨by omega, by omega, by rw [hdec, hF]⟩
          have iov : a * 16 + ((c.toNat : Int) - 48) ≤ 65535 := by omega
          clear hacc hF hov hdec ha hv
          go_wp2
          refine ⟨⟨k + 1, acc * 16 + (c.toNat - 48), a * 16 + ((c.toNat : Int) - 48), rfl, (by first | rfl | (congr 1; omega)), (by first | rfl | (congr 1; omega)), by omega, HN⟩, by simp [intOf]; omega⟩
      · have hl := lowerZ c
        have hl256 : (c ||| 32).toNat < 256 := (c ||| 32).toNat_lt
        have C : ∀ w, Calls Tryd.prog 97 #[.int .u8 (c.toNat : Int)] w fun e w' => e = .returned (.int .u8 ((c ||| 32).toNat : Int)) ∧ w' = w := fun w => by
          have h := Tryd.internal_strconv_lower (c.toNat : Int) w
          rw [hl] at h
          exact h
        have hval' : hval c = if 97 ≤ (c ||| 32).toNat ∧ (c ||| 32).toNat ≤ 102 then some ((c ||| 32).toNat - 87) else none := by unfold hval; rw [if_neg hdig]
        have hlw := lower_letter c
        have h95 := lower_95 c
        have nd : (c.toNat : Int) < 48 ∨ 57 < (c.toNat : Int) := by omega
        clear hl hdig
        replace C := Lib.hid C
        generalize (c ||| 32).toNat = L at *
        by_cases hlet : 97 ≤ L ∧ L ≤ 102
        · rw [if_pos hlet] at hval'
          obtain ⟨q57, q95⟩ := hlw hlet
          obtain ⟨hd0, hd1⟩ := hlet
          have q48 : ¬ (c.toNat : Int) < 48 := by omega
          have q57 : 57 < (c.toNat : Int) := by omega
          have q95 : ((c.toNat : Int) == 95) = false := by simp; omega
          have l0 : 97 ≤ (L : Int) := by omega
          have l1 : (L : Int) ≤ 102 := by omega
          clear nd hlw h95 hd0 hd1
          by_cases hov : 65535 < acc * 16 + (L - 87)
          · have hF := hpar_over (r := bs.drop (k + 1)) hval' hov
            rw [hF] at hdec
            have iov : 65535 < a * 16 + ((L : Int) - 87) := by omega
            clear hacc hF hov ha hval'
            go_wp2_with (first | (go_at_call 97; (with_reducible refine (C.out _).mono ?_); rintro e w' ⟨rfl, rfl⟩))
            go_ret2
            first | exact ⟨rfl, rfl⟩ | exact ⟨by rw [hdec]; rfl, rfl⟩
          · have hF := hpar_go (r := bs.drop (k + 1)) hval' hov
            have HN : Hid (a * 16 + ((L : Int) - 87) = ((acc * 16 + (L - 87) : Nat) : Int) ∧ acc * 16 + (L - 87) ≤ 65535 ∧ hpar 0 bs = hpar (acc * 16 + (L - 87)) (bs.drop (k + 1))) := Lib.hid ⟨by omega, by omega, by rw [hdec, hF]⟩
            have iov : a * 16 + ((L : Int) - 87) ≤ 65535 := by omega
            clear hacc hF hov hdec ha hval'
            go_wp2_with (first | (go_at_call 97; (with_reducible refine (C.out _).mono ?_); rintro e w' ⟨rfl, rfl⟩))
            refine ⟨⟨k + 1, acc * 16 + (L - 87), a * 16 + ((L : Int) - 87), rfl, (by first | rfl | (congr 1; omega)), (by first | rfl | (congr 1; omega)), by omega, HN⟩, by simp [intOf]; omega⟩
        · rw [if_neg hlet] at hval'
          have hF := hpar_bad (acc := acc) (r := bs.drop (k + 1)) hval'
          rw [hF] at hdec
          clear hval' hF hacc ha hlw
          by_cases e95 : c.toNat = 95
          · rw [h95 e95] at C
            rw [e95] at C hc
            have C9 : Hid (∀ w, Calls Tryd.prog 97 #[.int .u8 95] w fun e w' => e = .returned (.int .u8 127) ∧ w' = w) := C
            have hc9 : W1.cell? ⟨w.heap.size, k, none⟩ = some (.int .u8 95) := hc
            clear e95 h95 nd hlet hc256 C hc
            go_wp2_with (first | (go_at_call 97; (with_reducible refine (C9.out _).mono ?_); rintro e w' ⟨rfl, rfl⟩))
            all_goals go_ret2
            all_goals first | exact ⟨rfl, rfl⟩ | exact ⟨by rw [hdec]; rfl, rfl⟩
          have q95 : ((c.toNat : Int) == 95) = false := by simp; omega
          have l0 : (L : Int) < 97 ∨ 102 < (L : Int) := by omega
          clear e95 h95 hlet
          go_wp2_with (first | (go_at_call 97; (with_reducible refine (C.out _).mono ?_); rintro e w' ⟨rfl, rfl⟩))
          all_goals go_ret2
          all_goals first | exact ⟨rfl, rfl⟩ | exact ⟨by rw [hdec]; rfl, rfl⟩
    · have hkk : k = t.size := by omega
      subst hkk
      have hF : hpar acc (bs.drop t.size) = .ok acc := by rw [List.drop_eq_nil_of_le (by omega)]; rfl
      rw [hF] at hdec
      subst ha
      clear hacc hF a0 a1
      go_wp2
      go_ret2
      first | exact ⟨rfl, rfl⟩ | exact ⟨by rw [hdec]; rfl, rfl⟩
end Go.Proofs.YtbghbfgbpdppeaaDoor
