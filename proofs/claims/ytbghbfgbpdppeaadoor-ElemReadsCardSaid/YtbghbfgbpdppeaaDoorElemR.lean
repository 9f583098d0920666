
/- The document's hex of a number of four digits; the document's text of an element. -/
import Derived.Test.YtbghbfgbpdppeaaDoorElemQ
import Derived.Test.YtbghbfgbpdppeaaDoorElemI
import Derived.Deep.QuietTactic
namespace Go.Proofs.YtbghbfgbpdppeaaDoor
open Go.ChangeShapes Go.WideShapes Go.ChangeAt Go.RowKit
set_option linter.unusedVariables false

theorem rhex_4 (u : Nat) (w : World) (hu : u < 65536) :
    Calls Tryd.prog 50 #[.int .i64 u, .int .i64 4] w fun e w' => e = .returned (.string ⟨(hxn 4 u).toArray⟩) ∧ w = w' :=
  rhexI4 u _ _ _ _ _ _ _ _ _ _ _ _ w (by omega) (by omega)
    (by have h := dgI u 0; simpa using h) (by have h := sd (u % 16) (by omega); exact h) (Lib.hid (by have h := hxT 0 u; rw [show u / 16 ^ 0 % 16 = u % 16 by simp] at h; exact h)) rfl (hxs 1 u) (by omega) (by omega)
    (dgI u 1) (sd (u / 16 ^ 1 % 16) (Nat.mod_lt _ (by decide))) (Lib.hid (hxT 1 u)) rfl (hxs 2 u) (by omega) (by omega)
    (dgI u 2) (sd (u / 16 ^ 2 % 16) (Nat.mod_lt _ (by decide))) (Lib.hid (hxT 2 u)) rfl (hxs 3 u) (by omega) (by omega)
    (dgI u 3) (sd (u / 16 ^ 3 % 16) (Nat.mod_lt _ (by decide))) (Lib.hid (hxT 3 u)) rfl (hxs 4 u) (by omega) (by omega)

theorem txt_bytes (x : Nat) : (⟨(if wV x then #[91, 42] else #[91])⟩ : ByteArray) ++ ⟨(hxn 4 (wP x)).toArray⟩ ++ ⟨#[46]⟩ ++ ⟨(hxn 2 (wS x)).toArray⟩ ++ ⟨#[46]⟩ ++ ⟨(hxn 2 (wT x)).toArray⟩ ++ ⟨#[93]⟩ = ⟨(txt x).toArray⟩ := by
  apply bytes_inj
  cases hv : wV x <;> simp [ByteArray.data_append, txt, aheadT, midT, hv]

theorem bdn (W : World) (q : Nat) : Below W.heap.size W (W.drewN q) := ⟨rfl, rfl, rfl, Nat.le_refl _, fun _ _ => rfl⟩
theorem btr' {w W : World} {q : Nat} (h : Below w.heap.size w W) : Below w.heap.size w (W.drewN q) := h.trans ((bdn W q).mono h.size)

set_option maxHeartbeats 2000000 in
set_option maxRecDepth 4000 in
theorem rtextI_f (p s t : Int) (a b c R : ByteArray) (w : World) (s1 : a.size = 4) (s2 : b.size = 2) (s3 : c.size = 2)
    (H1 : Hid (∀ W, Calls Tryd.prog 50 #[.int .i64 p, .int .i64 4] W fun e w' => e = .returned (.string a) ∧ w' = W))
    (H2 : Hid (∀ W, Calls Tryd.prog 50 #[.int .i64 s, .int .i64 2] W fun e w' => e = .returned (.string b) ∧ w' = W))
    (H3 : Hid (∀ W, Calls Tryd.prog 50 #[.int .i64 t, .int .i64 2] W fun e w' => e = .returned (.string c) ∧ w' = W))
    (hR : Hid ((⟨#[91]⟩ : ByteArray) ++ a ++ ⟨#[46]⟩ ++ b ++ ⟨#[46]⟩ ++ c ++ ⟨#[93]⟩ = R)) :
    Calls Tryd.prog 29 #[ev p s t false] w fun e w' => e = .returned (.string R) ∧ Below w.heap.size w w' := by
  go_enter Tryd.func29, Tryd.ntmps29
  go_wp2
  obtain ⟨W, hW⟩ : ∃ W, W = w.alloc (Obj.cells #[.int .i64 p, .int .i64 s, .int .i64 t, .bool false] 50) := ⟨_, rfl⟩
  have hb : Below w.heap.size w W := by rw [hW]; exact (Below.refl _ _).alloc (Nat.le_refl _) _
  have c0 : W.cell? ⟨w.heap.size, 0, none⟩ = some (.int .i64 p) := by rw [hW]; simp
  have c1 : W.cell? ⟨w.heap.size, 1, none⟩ = some (.int .i64 s) := by rw [hW]; simp
  have c2 : W.cell? ⟨w.heap.size, 2, none⟩ = some (.int .i64 t) := by rw [hW]; simp
  rw [← hW]
  clear hW
  go_quiet (first
    | (go_at_call 50; (with_reducible exact Calls.quiet_of_same (H1.out _)))
    | (go_at_call 50; (with_reducible exact Calls.quiet_of_same (H2.out _)))
    | (go_at_call 50; (with_reducible exact Calls.quiet_of_same (H3.out _))))
  go_wp2
  go_ret
  exact ⟨by rw [← hR.out]; rfl, btr' hb⟩
set_option maxHeartbeats 2000000 in
set_option maxRecDepth 4000 in
theorem rtextI_t (p s t : Int) (a b c R : ByteArray) (w : World) (s1 : a.size = 4) (s2 : b.size = 2) (s3 : c.size = 2)
    (H1 : Hid (∀ W, Calls Tryd.prog 50 #[.int .i64 p, .int .i64 4] W fun e w' => e = .returned (.string a) ∧ w' = W))
    (H2 : Hid (∀ W, Calls Tryd.prog 50 #[.int .i64 s, .int .i64 2] W fun e w' => e = .returned (.string b) ∧ w' = W))
    (H3 : Hid (∀ W, Calls Tryd.prog 50 #[.int .i64 t, .int .i64 2] W fun e w' => e = .returned (.string c) ∧ w' = W))
    (hR : Hid ((⟨#[91, 42]⟩ : ByteArray) ++ a ++ ⟨#[46]⟩ ++ b ++ ⟨#[46]⟩ ++ c ++ ⟨#[93]⟩ = R)) :
    Calls Tryd.prog 29 #[ev p s t true] w fun e w' => e = .returned (.string R) ∧ Below w.heap.size w w' := by
  go_enter Tryd.func29, Tryd.ntmps29
  go_wp2
  obtain ⟨W, hW⟩ : ∃ W, W = w.alloc (Obj.cells #[.int .i64 p, .int .i64 s, .int .i64 t, .bool true] 50) := ⟨_, rfl⟩
  have hb : Below w.heap.size w W := by rw [hW]; exact (Below.refl _ _).alloc (Nat.le_refl _) _
  have c0 : W.cell? ⟨w.heap.size, 0, none⟩ = some (.int .i64 p) := by rw [hW]; simp
  have c1 : W.cell? ⟨w.heap.size, 1, none⟩ = some (.int .i64 s) := by rw [hW]; simp
  have c2 : W.cell? ⟨w.heap.size, 2, none⟩ = some (.int .i64 t) := by rw [hW]; simp
  rw [← hW]
  clear hW
  go_quiet (first
    | (go_at_call 50; (with_reducible exact Calls.quiet_of_same (H1.out _)))
    | (go_at_call 50; (with_reducible exact Calls.quiet_of_same (H2.out _)))
    | (go_at_call 50; (with_reducible exact Calls.quiet_of_same (H3.out _))))
  go_wp2
  go_ret
  exact ⟨by rw [← hR.out]; rfl, btr' hb⟩
theorem rtext_any (x : Nat) (w : World) (hx : x < 4294967296) :
    Calls Tryd.prog 29 #[ev (wP x) (wS x) (wT x) (wV x)] w fun e w' => e = .returned (.string ⟨(txt x).toArray⟩) ∧ Below w.heap.size w w' := by
  have H1 : Hid (∀ W, Calls Tryd.prog 50 #[.int .i64 (wP x : Nat), .int .i64 4] W fun e w' => e = .returned (.string ⟨(hxn 4 (wP x)).toArray⟩) ∧ w' = W) := Lib.hid (fun W => Calls.mono (rhex_4 (wP x) W (wP_lt hx)) fun _ _ h => ⟨h.1, h.2.symm⟩)
  have H2 : Hid (∀ W, Calls Tryd.prog 50 #[.int .i64 (wS x : Nat), .int .i64 2] W fun e w' => e = .returned (.string ⟨(hxn 2 (wS x)).toArray⟩) ∧ w' = W) := Lib.hid (fun W => Calls.mono (rhex_2 (wS x) W (wS_lt x)) fun _ _ h => ⟨h.1, h.2.symm⟩)
  have H3 : Hid (∀ W, Calls Tryd.prog 50 #[.int .i64 (wT x : Nat), .int .i64 2] W fun e w' => e = .returned (.string ⟨(hxn 2 (wT x)).toArray⟩) ∧ w' = W) := Lib.hid (fun W => Calls.mono (rhex_2 (wT x) W (Nat.lt_of_lt_of_le (wT_lt x) (by decide))) fun _ _ h => ⟨h.1, h.2.symm⟩)
  have hR := txt_bytes x
  cases hv : wV x
  · rw [hv] at hR
    exact rtextI_f _ _ _ _ _ _ _ w (hxs 4 _) (hxs 2 _) (hxs 2 _) H1 H2 H3 (Lib.hid hR)
  · rw [hv] at hR
    exact rtextI_t _ _ _ _ _ _ _ w (hxs 4 _) (hxs 2 _) (hxs 2 _) H1 H2 H3 (Lib.hid hR)
end Go.Proofs.YtbghbfgbpdppeaaDoor
