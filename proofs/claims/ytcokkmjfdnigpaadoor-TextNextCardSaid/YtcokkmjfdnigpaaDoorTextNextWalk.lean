/- TextNext is true of every input: the walk, where the tables of unicode/utf8 stand. -/
import Derived.Test.YtcokkmjfdnigpaaDoorTextX
import Derived.Laws.Cover1
namespace Go.Proofs.YtcokkmjfdnigpaaDoor
open Go.ChangeShapes Go.WideShapes Go.ChangeAt Go.RowKit Go.Lib

theorem next_begins (p other : ByteArray) (i : Nat) (hi : i < p.size) (h1 : ∀ j (h : j < p.size), i < j → p[j] = 255) (hlt : (p[i]'hi).toNat < 255) :
    (if p.size ≤ other.size then ((other.extract 0 p.size).toList == p.toList) else false) = (!Op.bytesLess other.toList p.toList && Op.bytesLess other.toList (p.extract 0 i ++ ⟨#[p[i] + 1]⟩).toList) := by
  have hl : (bl p).length = p.size := bl_len p
  have e1 : p.toList = (bl p).take i ++ p[i] :: List.replicate (p.size - (i + 1)) 255 := by
    rw [ByteArray.toList_eq]
    apply List.ext_getElem
    · simp; omega
    · intro j hj hj2
      have hjs : j < p.size := by rw [← hl]; exact hj
      have ev : (bl p)[j]'(by omega) = p[j]'hjs := rfl
      show (bl p)[j]'_ = _
      rw [ev, List.getElem_append]
      split
      · rename_i h
        simp only [List.getElem_take]
        exact ev.symm
      · rename_i h
        have hji : i ≤ j := by simpa [hl, Nat.min_eq_left (Nat.le_of_lt hi)] using h
        have hm : (List.take i (bl p)).length = i := by rw [List.length_take, hl]; omega
        rcases Nat.eq_or_lt_of_le hji with rfl | hlt2
        · simp [hm]
        · simp only [hm]
          rw [List.getElem_cons, dif_neg (by omega), List.getElem_replicate, h1 j hjs hlt2]
  have e2 : (p.extract 0 i ++ ⟨#[p[i] + 1]⟩).toList = (bl p).take i ++ [p[i] + 1] := by
    rw [ByteArray.toList_eq, ByteArray.data_append]
    simp
  have e3 : (other.extract 0 p.size).toList = (bl other).take p.size := by
    rw [ByteArray.toList_eq]
    simp
  have hn := next_law (p[i]) (p.size - (i + 1)) hlt ((bl p).take i) other.toList
  rw [← e1] at hn
  rw [e2, ← hn, e3]
  have e4 : other.toList = bl other := ByteArray.toList_eq other
  have e5 : p.toList = bl p := ByteArray.toList_eq p
  rw [e4, e5]
  by_cases h : p.size ≤ other.size
  · rw [if_pos h]
    rw [Bool.eq_iff_iff, beq_iff_eq, List.isPrefixOf_iff_prefix, List.prefix_iff_eq_take, hl]
    exact ⟨fun h => h.symm, fun h => h.symm⟩
  · rw [if_neg h]
    symm
    rw [Bool.eq_false_iff, ne_eq, List.isPrefixOf_iff_prefix]
    intro hp
    have := hp.length_le
    rw [hl, bl_len] at this
    omega

set_option maxRecDepth 100000 in
theorem walk_TextNext (p other : ByteArray) (w0 : p.size ≤ maxLen) (_w1 : other.size ≤ maxLen) (w : World) (hT : TabsU w) :
    Calls Tryd.prog 5 #[.string p, .string other] w fun e w' => e = .returned (.bool true) ∧ Below w.heap.size w w' := by
  have K := Lib.hid (fun W (hb : Below w.heap.size w W) => awake_any W (hT.below hb))
  clear hT
  unfold maxLen at w0
  obtain ⟨m, hm, h1, h2⟩ := last_not p
  by_cases h0 : 0 < m
  · obtain ⟨i, rfl⟩ : ∃ i, m = i + 1 := ⟨m - 1, by omega⟩
    have hi : i < p.size := by omega
    have hx : p[i] ≠ 255 := by simpa using h2 h0 (by simpa using hi)
    have hlt : (p[i]'hi).toNat < 255 := by
      have h3 := (p[i]'hi).toNat_lt
      have h4 : (p[i]'hi).toNat ≠ 255 := fun e => hx (UInt8.toNat_inj.1 e)
      omega
    have hC : (p[i]'hi + 1).toNat = (p[i]'hi).toNat + 1 := by rw [UInt8.toNat_add]; simp; omega
    have C1 := Lib.hid (fun W => next_any p W (by omega) i hi (fun j hj hij => h1 j hj (by omega)) _ rfl hlt (p[i] + 1) hC)
    have C2 := Lib.hid (fun W => rnext_any p W (by omega) i hi (fun j hj hij => h1 j hj (by omega)) _ rfl hlt (p[i] + 1) hC)
    have E := Lib.hid (next_begins p other i hi (fun j hj hij => h1 j hj (by omega)) hlt)
    clear h1 h2 hx hlt hC hm h0
    generalize p.extract 0 i ++ ⟨#[p[i] + 1]⟩ = S at *
    generalize hb1' : Op.bytesLess other.toList p.toList = b1 at *
    generalize hb2' : Op.bytesLess other.toList S.toList = b2 at *
    generalize hb0' : ((other.extract 0 p.size).toList == p.toList) = b0 at *
    by_cases hsz : p.size ≤ other.size
    · have E' : b0 = (!b1 && b2) := by have := E.out; rwa [if_pos hsz] at this
      subst E'
      clear E
      cases b1 <;> cases b2
      all_goals
        go_enter Tryd.func5, Tryd.ntmps5
        go_wp2_with (first
          | (go_at_call 15; (with_reducible refine (C1.out _).mono ?_); rintro e w1 ⟨rfl, hb1⟩)
          | (go_at_call 16; (with_reducible refine (C2.out _).mono ?_); rintro e w2 ⟨rfl, hb2⟩)
          | (go_at_call 10; (with_reducible refine (K.out _ (btr hb1 hb2)).mono ?_); rintro e w3 ⟨rfl, hb3⟩))
        go_ret
        exact ⟨rfl, btr (btr hb1 hb2) hb3⟩
    · have E' : false = (!b1 && b2) := by have := E.out; rwa [if_neg hsz] at this
      clear E
      cases b1 <;> cases b2
      all_goals (first | (exact absurd E' (by decide)) | clear E')
      all_goals
        go_enter Tryd.func5, Tryd.ntmps5
        go_wp2_with (first
          | (go_at_call 15; (with_reducible refine (C1.out _).mono ?_); rintro e w1 ⟨rfl, hb1⟩)
          | (go_at_call 16; (with_reducible refine (C2.out _).mono ?_); rintro e w2 ⟨rfl, hb2⟩)
          | (go_at_call 10; (with_reducible refine (K.out _ (btr hb1 hb2)).mono ?_); rintro e w3 ⟨rfl, hb3⟩))
        go_ret
        exact ⟨rfl, btr (btr hb1 hb2) hb3⟩
  · have m0 : m = 0 := by omega
    subst m0
    have C1 := Lib.hid (fun W => next_none p W (by omega) (fun i hi => h1 i hi (by omega)))
    have C2 := Lib.hid (fun W => rnext_none p W (by omega) (fun i hi => h1 i hi (by omega)))
    clear h1 h2
    go_enter Tryd.func5, Tryd.ntmps5
    go_wp2_with (first
      | (go_at_call 15; (with_reducible refine (C1.out _).mono ?_); rintro e w1 ⟨rfl, hb1⟩)
      | (go_at_call 16; (with_reducible refine (C2.out _).mono ?_); rintro e w2 ⟨rfl, hb2⟩)
      | (go_at_call 10; (with_reducible refine (K.out _ (btr hb1 hb2)).mono ?_); rintro e w3 ⟨rfl, hb3⟩))
    all_goals go_ret
    all_goals exact ⟨rfl, btr (btr hb1 hb2) hb3⟩
end Go.Proofs.YtcokkmjfdnigpaaDoor
