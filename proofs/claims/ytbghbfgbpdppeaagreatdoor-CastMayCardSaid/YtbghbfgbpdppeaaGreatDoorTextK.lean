
/- Small signs (utext.Fold, umlautref1.Fold): what they return, for every number. -/
import Derived.Test.YtbghbfgbpdppeaaGreatDoorTextJ
namespace Go.Proofs.YtbghbfgbpdppeaaGreatDoor.Tx
open Go.ChangeShapes Go.WideShapes Go.ChangeAt Go.RowKit Go.Lib
set_option linter.unusedVariables false

def foldZ (c : Int) : Int :=
  if (65 ≤ c ∧ c ≤ 90) ∨ (192 ≤ c ∧ c ≤ 222 ∧ c ≠ 215) ∨ (913 ≤ c ∧ c ≤ 937 ∧ c ≠ 930) ∨ (1040 ≤ c ∧ c ≤ 1071) then c + 32
  else if 1024 ≤ c ∧ c ≤ 1039 then c + 80 else c
theorem foldZ_nat (c : Nat) : foldZ c = (fold c : Nat) := by
  unfold foldZ fold
  repeat' split
  all_goals omega
theorem f_a (c : Int) (k1 : c ≤ 64) (w : World) : Calls Tryz.prog 49 #[.int .i64 c] w fun e w' => e = .returned (.int .i64 (c)) ∧ w = w' := by
  have p0 : ¬ 65 ≤ c := by omega
  have p1 : c ≤ 90 := by omega
  have p2 : ¬ 192 ≤ c := by omega
  have p3 : c ≤ 222 := by omega
  have p4 : ¬ c = 215 := by omega
  have p5 : ¬ 913 ≤ c := by omega
  have p6 : c ≤ 937 := by omega
  have p7 : ¬ c = 930 := by omega
  have p8 : ¬ 1040 ≤ c := by omega
  have p9 : c ≤ 1071 := by omega
  have p10 : ¬ 1024 ≤ c := by omega
  have p11 : c ≤ 1039 := by omega
  go_enter Tryz.func49, Tryz.ntmps49
  go_wp2
  go_ret
  exact ⟨rfl, rfl⟩
theorem f_b (c : Int) (k0 : 65 ≤ c) (k1 : c ≤ 90) (w : World) : Calls Tryz.prog 49 #[.int .i64 c] w fun e w' => e = .returned (.int .i64 (c + 32)) ∧ w = w' := by
  have p0 : 65 ≤ c := by omega
  have p1 : c ≤ 90 := by omega
  have p2 : ¬ 192 ≤ c := by omega
  have p3 : c ≤ 222 := by omega
  have p4 : ¬ c = 215 := by omega
  have p5 : ¬ 913 ≤ c := by omega
  have p6 : c ≤ 937 := by omega
  have p7 : ¬ c = 930 := by omega
  have p8 : ¬ 1040 ≤ c := by omega
  have p9 : c ≤ 1071 := by omega
  have p10 : ¬ 1024 ≤ c := by omega
  have p11 : c ≤ 1039 := by omega
  go_enter Tryz.func49, Tryz.ntmps49
  go_wp2
  go_ret
  exact ⟨rfl, rfl⟩
theorem f_c (c : Int) (k0 : 91 ≤ c) (k1 : c ≤ 191) (w : World) : Calls Tryz.prog 49 #[.int .i64 c] w fun e w' => e = .returned (.int .i64 (c)) ∧ w = w' := by
  have p0 : 65 ≤ c := by omega
  have p1 : ¬ c ≤ 90 := by omega
  have p2 : ¬ 192 ≤ c := by omega
  have p3 : c ≤ 222 := by omega
  have p4 : ¬ c = 215 := by omega
  have p5 : ¬ 913 ≤ c := by omega
  have p6 : c ≤ 937 := by omega
  have p7 : ¬ c = 930 := by omega
  have p8 : ¬ 1040 ≤ c := by omega
  have p9 : c ≤ 1071 := by omega
  have p10 : ¬ 1024 ≤ c := by omega
  have p11 : c ≤ 1039 := by omega
  go_enter Tryz.func49, Tryz.ntmps49
  go_wp2
  go_ret
  exact ⟨rfl, rfl⟩
theorem f_d (c : Int) (k0 : 192 ≤ c) (k1 : c ≤ 214) (w : World) : Calls Tryz.prog 49 #[.int .i64 c] w fun e w' => e = .returned (.int .i64 (c + 32)) ∧ w = w' := by
  have p0 : 65 ≤ c := by omega
  have p1 : ¬ c ≤ 90 := by omega
  have p2 : 192 ≤ c := by omega
  have p3 : c ≤ 222 := by omega
  have p4 : ¬ c = 215 := by omega
  have p5 : ¬ 913 ≤ c := by omega
  have p6 : c ≤ 937 := by omega
  have p7 : ¬ c = 930 := by omega
  have p8 : ¬ 1040 ≤ c := by omega
  have p9 : c ≤ 1071 := by omega
  have p10 : ¬ 1024 ≤ c := by omega
  have p11 : c ≤ 1039 := by omega
  go_enter Tryz.func49, Tryz.ntmps49
  go_wp2
  go_ret
  exact ⟨rfl, rfl⟩
theorem f_e (w : World) : Calls Tryz.prog 49 #[.int .i64 215] w fun e w' => e = .returned (.int .i64 215) ∧ w = w' := by
  go_enter Tryz.func49, Tryz.ntmps49
  go_wp2
  go_ret
  exact ⟨rfl, rfl⟩
theorem f_f (c : Int) (k0 : 216 ≤ c) (k1 : c ≤ 222) (w : World) : Calls Tryz.prog 49 #[.int .i64 c] w fun e w' => e = .returned (.int .i64 (c + 32)) ∧ w = w' := by
  have p0 : 65 ≤ c := by omega
  have p1 : ¬ c ≤ 90 := by omega
  have p2 : 192 ≤ c := by omega
  have p3 : c ≤ 222 := by omega
  have p4 : ¬ c = 215 := by omega
  have p5 : ¬ 913 ≤ c := by omega
  have p6 : c ≤ 937 := by omega
  have p7 : ¬ c = 930 := by omega
  have p8 : ¬ 1040 ≤ c := by omega
  have p9 : c ≤ 1071 := by omega
  have p10 : ¬ 1024 ≤ c := by omega
  have p11 : c ≤ 1039 := by omega
  go_enter Tryz.func49, Tryz.ntmps49
  go_wp2
  go_ret
  exact ⟨rfl, rfl⟩
theorem f_g (c : Int) (k0 : 223 ≤ c) (k1 : c ≤ 912) (w : World) : Calls Tryz.prog 49 #[.int .i64 c] w fun e w' => e = .returned (.int .i64 (c)) ∧ w = w' := by
  have p0 : 65 ≤ c := by omega
  have p1 : ¬ c ≤ 90 := by omega
  have p2 : 192 ≤ c := by omega
  have p3 : ¬ c ≤ 222 := by omega
  have p4 : ¬ c = 215 := by omega
  have p5 : ¬ 913 ≤ c := by omega
  have p6 : c ≤ 937 := by omega
  have p7 : ¬ c = 930 := by omega
  have p8 : ¬ 1040 ≤ c := by omega
  have p9 : c ≤ 1071 := by omega
  have p10 : ¬ 1024 ≤ c := by omega
  have p11 : c ≤ 1039 := by omega
  go_enter Tryz.func49, Tryz.ntmps49
  go_wp2
  go_ret
  exact ⟨rfl, rfl⟩
theorem f_h (c : Int) (k0 : 913 ≤ c) (k1 : c ≤ 929) (w : World) : Calls Tryz.prog 49 #[.int .i64 c] w fun e w' => e = .returned (.int .i64 (c + 32)) ∧ w = w' := by
  have p0 : 65 ≤ c := by omega
  have p1 : ¬ c ≤ 90 := by omega
  have p2 : 192 ≤ c := by omega
  have p3 : ¬ c ≤ 222 := by omega
  have p4 : ¬ c = 215 := by omega
  have p5 : 913 ≤ c := by omega
  have p6 : c ≤ 937 := by omega
  have p7 : ¬ c = 930 := by omega
  have p8 : ¬ 1040 ≤ c := by omega
  have p9 : c ≤ 1071 := by omega
  have p10 : ¬ 1024 ≤ c := by omega
  have p11 : c ≤ 1039 := by omega
  go_enter Tryz.func49, Tryz.ntmps49
  go_wp2
  go_ret
  exact ⟨rfl, rfl⟩
theorem f_i (w : World) : Calls Tryz.prog 49 #[.int .i64 930] w fun e w' => e = .returned (.int .i64 930) ∧ w = w' := by
  go_enter Tryz.func49, Tryz.ntmps49
  go_wp2
  go_ret
  exact ⟨rfl, rfl⟩
theorem f_j (c : Int) (k0 : 931 ≤ c) (k1 : c ≤ 937) (w : World) : Calls Tryz.prog 49 #[.int .i64 c] w fun e w' => e = .returned (.int .i64 (c + 32)) ∧ w = w' := by
  have p0 : 65 ≤ c := by omega
  have p1 : ¬ c ≤ 90 := by omega
  have p2 : 192 ≤ c := by omega
  have p3 : ¬ c ≤ 222 := by omega
  have p4 : ¬ c = 215 := by omega
  have p5 : 913 ≤ c := by omega
  have p6 : c ≤ 937 := by omega
  have p7 : ¬ c = 930 := by omega
  have p8 : ¬ 1040 ≤ c := by omega
  have p9 : c ≤ 1071 := by omega
  have p10 : ¬ 1024 ≤ c := by omega
  have p11 : c ≤ 1039 := by omega
  go_enter Tryz.func49, Tryz.ntmps49
  go_wp2
  go_ret
  exact ⟨rfl, rfl⟩
theorem f_k (c : Int) (k0 : 938 ≤ c) (k1 : c ≤ 1023) (w : World) : Calls Tryz.prog 49 #[.int .i64 c] w fun e w' => e = .returned (.int .i64 (c)) ∧ w = w' := by
  have p0 : 65 ≤ c := by omega
  have p1 : ¬ c ≤ 90 := by omega
  have p2 : 192 ≤ c := by omega
  have p3 : ¬ c ≤ 222 := by omega
  have p4 : ¬ c = 215 := by omega
  have p5 : 913 ≤ c := by omega
  have p6 : ¬ c ≤ 937 := by omega
  have p7 : ¬ c = 930 := by omega
  have p8 : ¬ 1040 ≤ c := by omega
  have p9 : c ≤ 1071 := by omega
  have p10 : ¬ 1024 ≤ c := by omega
  have p11 : c ≤ 1039 := by omega
  go_enter Tryz.func49, Tryz.ntmps49
  go_wp2
  go_ret
  exact ⟨rfl, rfl⟩
theorem f_l (c : Int) (k0 : 1024 ≤ c) (k1 : c ≤ 1039) (w : World) : Calls Tryz.prog 49 #[.int .i64 c] w fun e w' => e = .returned (.int .i64 (c + 80)) ∧ w = w' := by
  have p0 : 65 ≤ c := by omega
  have p1 : ¬ c ≤ 90 := by omega
  have p2 : 192 ≤ c := by omega
  have p3 : ¬ c ≤ 222 := by omega
  have p4 : ¬ c = 215 := by omega
  have p5 : 913 ≤ c := by omega
  have p6 : ¬ c ≤ 937 := by omega
  have p7 : ¬ c = 930 := by omega
  have p8 : ¬ 1040 ≤ c := by omega
  have p9 : c ≤ 1071 := by omega
  have p10 : 1024 ≤ c := by omega
  have p11 : c ≤ 1039 := by omega
  go_enter Tryz.func49, Tryz.ntmps49
  go_wp2
  go_ret
  exact ⟨rfl, rfl⟩
theorem f_m (c : Int) (k0 : 1040 ≤ c) (k1 : c ≤ 1071) (w : World) : Calls Tryz.prog 49 #[.int .i64 c] w fun e w' => e = .returned (.int .i64 (c + 32)) ∧ w = w' := by
  have p0 : 65 ≤ c := by omega
  have p1 : ¬ c ≤ 90 := by omega
  have p2 : 192 ≤ c := by omega
  have p3 : ¬ c ≤ 222 := by omega
  have p4 : ¬ c = 215 := by omega
  have p5 : 913 ≤ c := by omega
  have p6 : ¬ c ≤ 937 := by omega
  have p7 : ¬ c = 930 := by omega
  have p8 : 1040 ≤ c := by omega
  have p9 : c ≤ 1071 := by omega
  have p10 : 1024 ≤ c := by omega
  have p11 : ¬ c ≤ 1039 := by omega
  go_enter Tryz.func49, Tryz.ntmps49
  go_wp2
  go_ret
  exact ⟨rfl, rfl⟩
theorem f_n (c : Int) (k0 : 1072 ≤ c) (w : World) : Calls Tryz.prog 49 #[.int .i64 c] w fun e w' => e = .returned (.int .i64 (c)) ∧ w = w' := by
  have p0 : 65 ≤ c := by omega
  have p1 : ¬ c ≤ 90 := by omega
  have p2 : 192 ≤ c := by omega
  have p3 : ¬ c ≤ 222 := by omega
  have p4 : ¬ c = 215 := by omega
  have p5 : 913 ≤ c := by omega
  have p6 : ¬ c ≤ 937 := by omega
  have p7 : ¬ c = 930 := by omega
  have p8 : 1040 ≤ c := by omega
  have p9 : ¬ c ≤ 1071 := by omega
  have p10 : 1024 ≤ c := by omega
  have p11 : ¬ c ≤ 1039 := by omega
  go_enter Tryz.func49, Tryz.ntmps49
  go_wp2
  go_ret
  exact ⟨rfl, rfl⟩
theorem Fold_any (c : Int) (w : World) : Calls Tryz.prog 49 #[.int .i64 c] w fun e w' => e = .returned (.int .i64 (foldZ c)) ∧ w = w' := by
  by_cases h_a : c ≤ 64
  · have e : foldZ c = c := by unfold foldZ; rw [if_neg (by omega), if_neg (by omega)]
    rw [e]
    exact f_a c h_a w
  by_cases h_b : c ≤ 90
  · have e : foldZ c = c + 32 := by unfold foldZ; rw [if_pos (by omega)]
    rw [e]
    exact f_b c (by omega) h_b w
  by_cases h_c : c ≤ 191
  · have e : foldZ c = c := by unfold foldZ; rw [if_neg (by omega), if_neg (by omega)]
    rw [e]
    exact f_c c (by omega) h_c w
  by_cases h_d : c ≤ 214
  · have e : foldZ c = c + 32 := by unfold foldZ; rw [if_pos (by omega)]
    rw [e]
    exact f_d c (by omega) h_d w
  by_cases h_e : c = 215
  · subst h_e
    exact f_e w
  by_cases h_f : c ≤ 222
  · have e : foldZ c = c + 32 := by unfold foldZ; rw [if_pos (by omega)]
    rw [e]
    exact f_f c (by omega) h_f w
  by_cases h_g : c ≤ 912
  · have e : foldZ c = c := by unfold foldZ; rw [if_neg (by omega), if_neg (by omega)]
    rw [e]
    exact f_g c (by omega) h_g w
  by_cases h_h : c ≤ 929
  · have e : foldZ c = c + 32 := by unfold foldZ; rw [if_pos (by omega)]
    rw [e]
    exact f_h c (by omega) h_h w
  by_cases h_i : c = 930
  · subst h_i
    exact f_i w
  by_cases h_j : c ≤ 937
  · have e : foldZ c = c + 32 := by unfold foldZ; rw [if_pos (by omega)]
    rw [e]
    exact f_j c (by omega) h_j w
  by_cases h_k : c ≤ 1023
  · have e : foldZ c = c := by unfold foldZ; rw [if_neg (by omega), if_neg (by omega)]
    rw [e]
    exact f_k c (by omega) h_k w
  by_cases h_l : c ≤ 1039
  · have e : foldZ c = c + 80 := by unfold foldZ; rw [if_neg (by omega), if_pos (by omega)]
    rw [e]
    exact f_l c (by omega) h_l w
  by_cases h_m : c ≤ 1071
  · have e : foldZ c = c + 32 := by unfold foldZ; rw [if_pos (by omega)]
    rw [e]
    exact f_m c (by omega) h_m w
  have e : foldZ c = c := by unfold foldZ; rw [if_neg (by omega), if_neg (by omega)]
  rw [e]
  exact f_n c (by omega) w
end Go.Proofs.YtbghbfgbpdppeaaGreatDoor.Tx
