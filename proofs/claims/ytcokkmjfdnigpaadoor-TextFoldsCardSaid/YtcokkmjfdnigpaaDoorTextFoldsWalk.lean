/- TextFolds is true of every input: the walk, where the tables of unicode/utf8 stand. -/
import Derived.Test.YtcokkmjfdnigpaaDoorTextL
namespace Go.Proofs.YtcokkmjfdnigpaaDoor
open Go.ChangeShapes Go.WideShapes Go.ChangeAt Go.RowKit Go.Lib

set_option maxRecDepth 100000 in
theorem walk_TextFolds (b : ByteArray) (c : Int) (_w0 : b.size ≤ maxLen) (_w1 : (Lit.int .i64 c).wf = true) (w : World) (hT : TabsU w) :
    Calls Tryd.prog 6 #[.string b, .int .i64 c] w fun e w' => e = .returned (.bool true) ∧ Below w.heap.size w w' := by
  have K := Lib.hid (fun W (hb : Below w.heap.size w W) => awake_any W (hT.below hb))
  clear _w0 _w1
  by_cases hs : b.size ≤ 1000
  · have hT' := Lib.hid hT
    have hlen := sgs_len _ (bl b) (Nat.le_refl _)
    rw [bl_len] at hlen
    have hF : (fdB (bl b)).length ≤ 4000 := by
      have h := jn_len ((sgs (bl b)).map fold)
      rw [List.length_map] at h
      show (jn ((sgs (bl b)).map fold)).length ≤ 4000
      omega
    have hsz : (ByteArray.mk (fdB (bl b)).toArray).size = (fdB (bl b)).length := by show (fdB (bl b)).toArray.size = _; simp
    have C1 := Lib.hid (FoldText_any b w (by omega) hT)
    have C3 := Lib.hid (fun W => rFoldText_any b W (by omega))
    have C4 : Hid (∀ W, TabsU W → Calls Tryd.prog 17 #[.string ⟨(fdB (bl b)).toArray⟩] W fun e w' => e = .returned (.string ⟨(fdB (bl b)).toArray⟩) ∧ Below W.heap.size W w') := Lib.hid (fun W h => by
      have h1 := FoldText_any ⟨(fdB (bl b)).toArray⟩ W (by omega) h
      rw [bl_mk, fd_fd] at h1
      exact h1)
    have C5 : Hid (∀ W, Calls Tryd.prog 21 #[.string ⟨(fdB (bl b)).toArray⟩] W fun e w' => e = .returned (.int .i64 ((sgs (bl b)).length : Nat)) ∧ Below W.heap.size W w') := Lib.hid (fun W => by
      have h1 := Count_any ⟨(fdB (bl b)).toArray⟩ W (by omega)
      rw [bl_mk, sgs_fd _ _ (Nat.le_refl _), List.length_map] at h1
      exact h1)
    have C6 := Lib.hid (fun W => Count_any b W (by omega))
    have F1 := Lib.hid (fun W => Fold_any c W)
    have F2 := Lib.hid (fun W => rFold_any c W)
    clear hF hsz hlen hT
    generalize foldZ c = z at *
    generalize (sgs (bl b)).length = N at *
    generalize ByteArray.mk (fdB (bl b)).toArray = F at *
    go_enter Tryd.func6, Tryd.ntmps6
    go_wp2_with (first
      | (go_at_call 17; (with_reducible refine C1.out.mono ?_); rintro e w1 ⟨rfl, hb1⟩)
      | (go_at_call 18; (with_reducible refine (F1.out _).mono ?_); rintro e w' ⟨rfl, rfl⟩)
      | (go_at_call 19; (with_reducible refine (F2.out _).mono ?_); rintro e w' ⟨rfl, rfl⟩)
      | (go_at_call 20; (with_reducible refine (C3.out _).mono ?_); rintro e w3 ⟨rfl, hb3⟩)
      | (go_at_call 17; (with_reducible refine (C4.out _ (hT'.out.below (btr hb1 hb3))).mono ?_); rintro e w4 ⟨rfl, hb4⟩)
      | (go_at_call 21; (with_reducible refine (C5.out _).mono ?_); rintro e w5 ⟨rfl, hb5⟩)
      | (go_at_call 21; (with_reducible refine (C6.out _).mono ?_); rintro e w6 ⟨rfl, hb6⟩)
      | (go_at_call 10; (with_reducible refine (K.out _ (btr (btr (btr (btr hb1 hb3) hb4) hb5) hb6)).mono ?_); rintro e w7 ⟨rfl, hb7⟩))
    go_ret
    exact ⟨rfl, btr (btr (btr (btr (btr hb1 hb3) hb4) hb5) hb6) hb7⟩
  · have hs2 : 1000 < b.size := by omega
    go_enter Tryd.func6, Tryd.ntmps6
    go_wp2_with (go_at_call 10; (with_reducible refine (K.out w (Below.refl _ _)).mono ?_); rintro e w3 ⟨rfl, hb3⟩)
    go_ret
    exact ⟨rfl, hb3⟩
end Go.Proofs.YtcokkmjfdnigpaaDoor
