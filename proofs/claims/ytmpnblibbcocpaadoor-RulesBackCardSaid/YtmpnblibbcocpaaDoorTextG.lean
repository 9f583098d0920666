
/- Two lists held against each other (slices.Equal); signs' bytes as a text, or refused (utext.Bytes). -/
import Derived.Test.YtmpnblibbcocpaaDoorTextF
namespace Go.Proofs.YtmpnblibbcocpaaDoor
open Go.ChangeShapes Go.WideShapes Go.ChangeAt Go.RowKit Go.Lib

theorem btr {w w1 w2 : World} (h : Below w.heap.size w w1) (h2 : Below w1.heap.size w1 w2) : Below w.heap.size w w2 := h.trans (h2.mono h.size)
theorem below_drewN (w : World) (q : Nat) : Below w.heap.size w (w.drewN q) := ⟨rfl, rfl, rfl, Nat.le_refl _, fun _ _ => rfl⟩

theorem Equal_any (v1 v2 : Value) (zs ys : List Int) (w : World) (h1 : Rd w v1 zs) (h2 : Rd w v2 ys) (hl1 : zs.length ≤ 1000000) (hl2 : ys.length ≤ 1000000) :
    Calls Tryd.prog 43 #[v1, v2] w fun e w' => e = .returned (.bool (zs == ys)) ∧ Below w.heap.size w w' := by
  obtain ⟨A, c, rfl, hc, k1⟩ := h1
  obtain ⟨B, d, rfl, hd, k2⟩ := h2
  by_cases hlen : zs.length = ys.length
  · by_cases h0 : 0 < zs.length
    · obtain ⟨b1, o1, rfl, _, c1⟩ := k1 h0
      obtain ⟨b2, o2, rfl, _, c2⟩ := k2 (by omega)
      refine (Tryd.slices_Equal_int b1 o1 zs.length c b2 o2 ys.length d zs ys w (Nat.le_refl _) (Nat.le_refl _) (by omega) (by omega) c1 c2).mono ?_
      rintro e w' ⟨rfl, q, rfl⟩
      rw [List.take_length, List.take_length]
      exact ⟨rfl, below_drewN w q⟩
    · have e1 : zs = [] := List.eq_nil_of_length_eq_zero (by omega)
      have e2 : ys = [] := List.eq_nil_of_length_eq_zero (by omega)
      subst e1 e2
      refine (Tryd.slices_Equal_int_empty A B c 0 d w (by omega)).mono ?_
      rintro e w' ⟨rfl, rfl⟩
      exact ⟨rfl, Below.refl _ _⟩
  · refine (Tryd.slices_Equal_int_lens A B zs.length c ys.length d w hlen).mono ?_
    rintro e w' ⟨rfl, rfl⟩
    refine ⟨retb ?_, Below.refl _ _⟩
    symm
    rw [beq_eq_false_iff_ne]
    exact fun e => hlen (by rw [e])

/-- numbers as integers -/
abbrev zl (l : List Nat) : List Int := l.map fun (c : Nat) => (c : Int)
theorem zl_all : ∀ l : List Nat, (zl l).all isZ = l.all isSg
  | [] => rfl
  | c :: l => by
    have ih := zl_all l
    simp only [List.map_cons, List.all_cons] at ih ⊢
    rw [ih, isZ_nat]
theorem zl_inj {l m : List Nat} : (zl l == zl m) = (l == m) := by
  rw [Bool.eq_iff_iff, beq_iff_eq, beq_iff_eq]
  constructor
  · intro h
    have := congrArg (List.map Int.toNat) h
    rw [List.map_map, List.map_map] at this
    have e : ∀ k : List Nat, List.map (Int.toNat ∘ fun (c : Nat) => (c : Int)) k = k := fun k => (List.map_congr_left (fun c _ => by simp)).trans (List.map_id k)
    rwa [e, e] at this
  · rintro rfl; rfl
theorem of_all {zs : List Int} (h : zs.all isZ = true) : ∃ l : List Nat, zs = zl l := by
  refine ⟨zs.map Int.toNat, ?_⟩
  unfold zl
  rw [List.map_map]
  symm
  refine (List.map_congr_left (fun z hz => ?_)).trans (List.map_id zs)
  have := List.all_eq_true.1 h z hz
  unfold isZ at this
  rw [decide_eq_true_eq] at this
  simp only [Function.comp]
  have h0 : 0 ≤ z := by omega
  show ((z.toNat : Nat) : Int) = z
  omega
theorem bl_mk (l : List UInt8) : bl ⟨l.toArray⟩ = l := rfl

end Go.Proofs.YtmpnblibbcocpaaDoor
