
/- A sign's bytes by the document (umlautref1.One), signs' bytes one behind the other (Join), whether a number is a sign (IsSign). -/
import Derived.Test.YtmpnblibbcocpaaDoorTextH
namespace Go.Proofs.YtmpnblibbcocpaaDoor
open Go.ChangeShapes Go.WideShapes Go.ChangeAt Go.RowKit Go.Lib
set_option linter.unusedVariables false

theorem conv_nums (W : World) (xs : List Int) (n : Nat) (hn : xs.length = n) : (convert 70 9 (.slice (some ⟨W.heap.size, 0, none⟩) n n)).run Tryd.prog (W.alloc (.cells (xs.map (Value.int .u8)).toArray 5)) = .ok (.string (strOfNums xs)) (W.alloc (.cells (xs.map (Value.int .u8)).toArray 5)) :=
  run_convert_bytes_arg _ 70 5 Tryd.underlying70 Tryd.underlying5 W.heap.size 0 n n xs hn (fun i hi => by
    have hi2 : i < xs.length := by omega
    rw [Nat.zero_add, World.cell?_alloc_at _ _ _ _ rfl]
    simp [List.getD, hi2]) 9 Tryd.underlying9
theorem num1 {z : Int} {a : Nat} (h : z = a) : UInt8.ofNat z.toNat = UInt8.ofNat a := by rw [h]; simp
set_option maxRecDepth 100000 in
theorem One_r (c : Int) (n : Nat) (hn : c = n) (k0 : 1114112 ≤ c) (k1 : c ≤ 1114367) (w : World) :
    Calls Tryd.prog 44 #[.int .i64 c] w fun e w' => e = .returned (.string ⟨(oneB n).toArray⟩) ∧ Below w.heap.size w w' := by
  have e : oneB n = [UInt8.ofNat (n - 1114112)] := by unfold oneB; rw [if_pos (by omega)]
  rw [e]
  clear e
  have D : ∀ (W : World) (z0 : Int), (convert 70 9 (.slice (some ⟨W.heap.size, 0, none⟩) 1 1)).run Tryd.prog (W.alloc (.cells #[.int .u8 z0] 5)) = .ok (.string (strOfNums [z0])) (W.alloc (.cells #[.int .u8 z0] 5)) := fun W z0 => conv_nums W [z0] 1 rfl
  have p0 : 1114112 ≤ c := by omega
  have p1 : ¬ c < 128 := by omega
  have p2 : ¬ c < 2048 := by omega
  have p3 : ¬ c < 65536 := by omega
  replace hn := Lib.hid hn
  go_enter Tryd.func44, Tryd.ntmps44
  go_wp2
  go_ret
  have hn' := hn.out
  refine ⟨?_, (Below.refl _ _).alloc (Nat.le_refl _) _⟩
  refine congrArg (fun x => Ending.returned (Value.string x)) ?_
  unfold strOfNums
  simp only [List.map_cons, List.map_nil]
  rw [num1 (a := n - 1114112) (by omega)]
  all_goals (first | rfl | simp)
set_option maxRecDepth 100000 in
theorem One_1 (c : Int) (n : Nat) (hn : c = n) (k0 : 0 ≤ c) (k1 : c < 128) (w : World) :
    Calls Tryd.prog 44 #[.int .i64 c] w fun e w' => e = .returned (.string ⟨(oneB n).toArray⟩) ∧ Below w.heap.size w w' := by
  have e : oneB n = [UInt8.ofNat (n)] := by unfold oneB; rw [if_neg (by omega), if_pos (by omega)]
  rw [e]
  clear e
  have D : ∀ (W : World) (z0 : Int), (convert 70 9 (.slice (some ⟨W.heap.size, 0, none⟩) 1 1)).run Tryd.prog (W.alloc (.cells #[.int .u8 z0] 5)) = .ok (.string (strOfNums [z0])) (W.alloc (.cells #[.int .u8 z0] 5)) := fun W z0 => conv_nums W [z0] 1 rfl
  have p0 : ¬ 1114112 ≤ c := by omega
  have p1 : c < 128 := by omega
  have p2 : c < 2048 := by omega
  have p3 : c < 65536 := by omega
  replace hn := Lib.hid hn
  go_enter Tryd.func44, Tryd.ntmps44
  go_wp2
  go_ret
  have hn' := hn.out
  refine ⟨?_, (Below.refl _ _).alloc (Nat.le_refl _) _⟩
  refine congrArg (fun x => Ending.returned (Value.string x)) ?_
  unfold strOfNums
  simp only [List.map_cons, List.map_nil]
  rw [num1 (a := n) (by omega)]
  all_goals (first | rfl | simp)
set_option maxRecDepth 100000 in
theorem One_2 (c : Int) (n : Nat) (hn : c = n) (k0 : 128 ≤ c) (k1 : c < 2048) (w : World) :
    Calls Tryd.prog 44 #[.int .i64 c] w fun e w' => e = .returned (.string ⟨(oneB n).toArray⟩) ∧ Below w.heap.size w w' := by
  have e : oneB n = [UInt8.ofNat (192 + n / 64), UInt8.ofNat (128 + n % 64)] := by unfold oneB; rw [if_neg (by omega), if_neg (by omega), if_pos (by omega)]
  rw [e]
  clear e
  have D : ∀ (W : World) (z0 z1 : Int), (convert 70 9 (.slice (some ⟨W.heap.size, 0, none⟩) 2 2)).run Tryd.prog (W.alloc (.cells #[.int .u8 z0, .int .u8 z1] 5)) = .ok (.string (strOfNums [z0, z1])) (W.alloc (.cells #[.int .u8 z0, .int .u8 z1] 5)) := fun W z0 z1 => conv_nums W [z0, z1] 2 rfl
  have p0 : ¬ 1114112 ≤ c := by omega
  have p1 : ¬ c < 128 := by omega
  have p2 : c < 2048 := by omega
  have p3 : c < 65536 := by omega
  replace hn := Lib.hid hn
  go_enter Tryd.func44, Tryd.ntmps44
  go_wp2
  go_ret
  have hn' := hn.out
  refine ⟨?_, (Below.refl _ _).alloc (Nat.le_refl _) _⟩
  refine congrArg (fun x => Ending.returned (Value.string x)) ?_
  unfold strOfNums
  simp only [List.map_cons, List.map_nil]
  rw [num1 (a := 192 + n / 64) (by omega), num1 (a := 128 + n % 64) (by omega)]
  all_goals (first | rfl | simp)
set_option maxRecDepth 100000 in
theorem One_3 (c : Int) (n : Nat) (hn : c = n) (k0 : 2048 ≤ c) (k1 : c < 65536) (w : World) :
    Calls Tryd.prog 44 #[.int .i64 c] w fun e w' => e = .returned (.string ⟨(oneB n).toArray⟩) ∧ Below w.heap.size w w' := by
  have e : oneB n = [UInt8.ofNat (224 + n / 4096), UInt8.ofNat (128 + n / 64 % 64), UInt8.ofNat (128 + n % 64)] := by unfold oneB; rw [if_neg (by omega), if_neg (by omega), if_neg (by omega), if_pos (by omega)]
  rw [e]
  clear e
  have D : ∀ (W : World) (z0 z1 z2 : Int), (convert 70 9 (.slice (some ⟨W.heap.size, 0, none⟩) 3 3)).run Tryd.prog (W.alloc (.cells #[.int .u8 z0, .int .u8 z1, .int .u8 z2] 5)) = .ok (.string (strOfNums [z0, z1, z2])) (W.alloc (.cells #[.int .u8 z0, .int .u8 z1, .int .u8 z2] 5)) := fun W z0 z1 z2 => conv_nums W [z0, z1, z2] 3 rfl
  have p0 : ¬ 1114112 ≤ c := by omega
  have p1 : ¬ c < 128 := by omega
  have p2 : ¬ c < 2048 := by omega
  have p3 : c < 65536 := by omega
  replace hn := Lib.hid hn
  go_enter Tryd.func44, Tryd.ntmps44
  go_wp2
  go_ret
  have hn' := hn.out
  refine ⟨?_, (Below.refl _ _).alloc (Nat.le_refl _) _⟩
  refine congrArg (fun x => Ending.returned (Value.string x)) ?_
  unfold strOfNums
  simp only [List.map_cons, List.map_nil]
  rw [num1 (a := 224 + n / 4096) (by omega), num1 (a := 128 + n / 64 % 64) (by omega), num1 (a := 128 + n % 64) (by omega)]
  all_goals (first | rfl | simp)
set_option maxRecDepth 100000 in
theorem One_4 (c : Int) (n : Nat) (hn : c = n) (k0 : 65536 ≤ c) (k1 : c < 1114112) (w : World) :
    Calls Tryd.prog 44 #[.int .i64 c] w fun e w' => e = .returned (.string ⟨(oneB n).toArray⟩) ∧ Below w.heap.size w w' := by
  have e : oneB n = [UInt8.ofNat (240 + n / 262144), UInt8.ofNat (128 + n / 4096 % 64), UInt8.ofNat (128 + n / 64 % 64), UInt8.ofNat (128 + n % 64)] := by unfold oneB; rw [if_neg (by omega), if_neg (by omega), if_neg (by omega), if_neg (by omega)]
  rw [e]
  clear e
  have D : ∀ (W : World) (z0 z1 z2 z3 : Int), (convert 70 9 (.slice (some ⟨W.heap.size, 0, none⟩) 4 4)).run Tryd.prog (W.alloc (.cells #[.int .u8 z0, .int .u8 z1, .int .u8 z2, .int .u8 z3] 5)) = .ok (.string (strOfNums [z0, z1, z2, z3])) (W.alloc (.cells #[.int .u8 z0, .int .u8 z1, .int .u8 z2, .int .u8 z3] 5)) := fun W z0 z1 z2 z3 => conv_nums W [z0, z1, z2, z3] 4 rfl
  have p0 : ¬ 1114112 ≤ c := by omega
  have p1 : ¬ c < 128 := by omega
  have p2 : ¬ c < 2048 := by omega
  have p3 : ¬ c < 65536 := by omega
  replace hn := Lib.hid hn
  go_enter Tryd.func44, Tryd.ntmps44
  go_wp2
  go_ret
  have hn' := hn.out
  refine ⟨?_, (Below.refl _ _).alloc (Nat.le_refl _) _⟩
  refine congrArg (fun x => Ending.returned (Value.string x)) ?_
  unfold strOfNums
  simp only [List.map_cons, List.map_nil]
  rw [num1 (a := 240 + n / 262144) (by omega), num1 (a := 128 + n / 4096 % 64) (by omega), num1 (a := 128 + n / 64 % 64) (by omega), num1 (a := 128 + n % 64) (by omega)]
  all_goals (first | rfl | simp)

theorem One_any (n : Nat) (h : n ≤ 1114367) (w : World) :
    Calls Tryd.prog 44 #[.int .i64 n] w fun e w' => e = .returned (.string ⟨(oneB n).toArray⟩) ∧ Below w.heap.size w w' := by
  by_cases h0 : (1114112 : Int) ≤ n
  · exact One_r n n rfl h0 (by omega) w
  by_cases h1 : (n : Int) < 128
  · exact One_1 n n rfl (by omega) h1 w
  by_cases h2 : (n : Int) < 2048
  · exact One_2 n n rfl (by omega) h2 w
  by_cases h3 : (n : Int) < 65536
  · exact One_3 n n rfl (by omega) h3 w
  exact One_4 n n rfl (by omega) (by omega) w
end Go.Proofs.YtmpnblibbcocpaaDoor
