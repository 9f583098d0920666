/- TextOne is true of every input: the walks, case by case (the byte below 128). -/
import Derived.Test.YtcokkmjfdnigpaaDoorTextOneM
namespace Go.Proofs.YtcokkmjfdnigpaaDoor
open Go.ChangeShapes Go.WideShapes Go.ChangeAt Go.RowKit Go.Lib
set_option linter.unusedVariables false

set_option maxRecDepth 100000 in
theorem one_g1_lo (c b : Int) (bb : UInt8) (hbb : (bb.toNat : Int) = b) (k0 : 0 ≤ c) (k1 : c < 128) (b0 : 0 ≤ b) (b1 : b < 128) (w : World) (hT : TabsU w) :
    Calls Tryd.prog 4 #[.int .i64 c, .int .u8 b] w fun e w' => e = .returned (.bool true) ∧ Below w.heap.size w w' := by
  have K := Lib.hid (fun W (hb : Below w.heap.size w W) => awake_any W (hT.below hb))
  have D := conv_byte bb b hbb
  have CS := Lib.hid (signs_byte' bb b ⟨_, sgs_byte_lo bb (by omega), hbb⟩)
  obtain ⟨n, hn⟩ : ∃ n : Nat, c = n := ⟨c.toNat, by omega⟩
  have C1 := bytes_one n (by unfold isSg; simp; omega) (sgs_good (by omega)) w hT
  have hE := encode_one (n := n) (by omega)
  have hL := one_size n 1 (by omega) (by omega)
  rw [← hn] at C1 hE
  generalize oneB n = Ls at *
  clear hn
  replace C1 := Lib.hid C1
  have p0 : 0 ≤ c := by omega
  have p1 : c < 55296 := by omega
  have p2 : ¬ 57343 < c := by omega
  have p3 : c ≤ 1114111 := by omega
  have p4 : ¬ 1114240 ≤ c := by omega
  have p5 : c ≤ 1114367 := by omega
  have p6 : ¬ 127 < c := by omega
  have p7 : ¬ 2047 < c := by omega
  have p8 : ¬ 65535 < c := by omega
  have hT' := Lib.hid hT
  clear hT hbb
  go_enter Tryd.func4, Tryd.ntmps4
  go_wp2_with (first | (go_at_call 11; (with_reducible refine C1.out.mono ?_); rintro e w1 ⟨rfl, hb1⟩))
  have x0 : (w1.alloc (.cells #[.int .i64 127, .int .i64 2047, .int .i64 65535] 3)).cell? ⟨w1.heap.size, 0, none⟩ = some (.int .i64 127) := by rw [World.cell?_alloc_at _ _ _ _ rfl]; rfl
  have x1 : (w1.alloc (.cells #[.int .i64 127, .int .i64 2047, .int .i64 65535] 3)).cell? ⟨w1.heap.size, 1, none⟩ = some (.int .i64 2047) := by rw [World.cell?_alloc_at _ _ _ _ rfl]; rfl
  have x2 : (w1.alloc (.cells #[.int .i64 127, .int .i64 2047, .int .i64 65535] 3)).cell? ⟨w1.heap.size, 2, none⟩ = some (.int .i64 65535) := by rw [World.cell?_alloc_at _ _ _ _ rfl]; rfl
  have hb2 : Below w.heap.size w (w1.alloc (.cells #[.int .i64 127, .int .i64 2047, .int .i64 65535] 3)) := btr hb1 ((Below.refl _ _).alloc (Nat.le_refl _) _)
  generalize w1.alloc (.cells #[.int .i64 127, .int .i64 2047, .int .i64 65535] 3) = w2 at *
  clear hb1
  go_loop [9, 50] (fun n i => (i = .int .i64 0 ∧ n = .int .i64 1) ∨ (i = .int .i64 1 ∧ n = .int .i64 1) ∨ (i = .int .i64 2 ∧ n = .int .i64 1) ∨ (i = .int .i64 3 ∧ n = .int .i64 1)) (fun _ i => 3 - (RowKit.intOf i).toNat)
  case atStart => exact .inl ⟨rfl, rfl⟩
  case round =>
    rcases hrel with ⟨rfl, rfl⟩ | ⟨rfl, rfl⟩ | ⟨rfl, rfl⟩ | ⟨rfl, rfl⟩
    · go_wp2_with fail
      exact ⟨.inr (.inl ⟨rfl, rfl⟩), by simp [RowKit.intOf]⟩
    · go_wp2_with fail
      exact ⟨.inr (.inr (.inl ⟨rfl, rfl⟩)), by simp [RowKit.intOf]⟩
    · go_wp2_with fail
      exact ⟨.inr (.inr (.inr ⟨rfl, rfl⟩)), by simp [RowKit.intOf]⟩
    · go_wp2_with (first | (go_at_call 14; (with_reducible refine (CS.out _ (hT'.out.below (btr hb2 ((Below.refl _ _).alloc (Nat.le_refl _) _)))).mono ?_); rintro e w4 ⟨g, cc, rfl, hcc, hg, hcell, hb4⟩) | (go_at_call 10; (with_reducible refine (K.out _ (btr (btr hb2 ((Below.refl _ _).alloc (Nat.le_refl _) _)) hb4)).mono ?_); rintro e w5 ⟨rfl, hb5⟩))
      go_ret
      exact ⟨rfl, btr (btr (btr hb2 ((Below.refl _ _).alloc (Nat.le_refl _) _)) hb4) hb5⟩

set_option maxRecDepth 100000 in
theorem one_g2_lo (c b : Int) (bb : UInt8) (hbb : (bb.toNat : Int) = b) (k0 : 128 ≤ c) (k1 : c < 2048) (b0 : 0 ≤ b) (b1 : b < 128) (w : World) (hT : TabsU w) :
    Calls Tryd.prog 4 #[.int .i64 c, .int .u8 b] w fun e w' => e = .returned (.bool true) ∧ Below w.heap.size w w' := by
  have K := Lib.hid (fun W (hb : Below w.heap.size w W) => awake_any W (hT.below hb))
  have D := conv_byte bb b hbb
  have CS := Lib.hid (signs_byte' bb b ⟨_, sgs_byte_lo bb (by omega), hbb⟩)
  obtain ⟨n, hn⟩ : ∃ n : Nat, c = n := ⟨c.toNat, by omega⟩
  have C1 := bytes_one n (by unfold isSg; simp; omega) (sgs_good (by omega)) w hT
  have hE := encode_one (n := n) (by omega)
  have hL := one_size n 2 (by omega) (by omega)
  rw [← hn] at C1 hE
  generalize oneB n = Ls at *
  clear hn
  replace C1 := Lib.hid C1
  have p0 : 0 ≤ c := by omega
  have p1 : c < 55296 := by omega
  have p2 : ¬ 57343 < c := by omega
  have p3 : c ≤ 1114111 := by omega
  have p4 : ¬ 1114240 ≤ c := by omega
  have p5 : c ≤ 1114367 := by omega
  have p6 : 127 < c := by omega
  have p7 : ¬ 2047 < c := by omega
  have p8 : ¬ 65535 < c := by omega
  have hT' := Lib.hid hT
  clear hT hbb
  go_enter Tryd.func4, Tryd.ntmps4
  go_wp2_with (first | (go_at_call 11; (with_reducible refine C1.out.mono ?_); rintro e w1 ⟨rfl, hb1⟩))
  have x0 : (w1.alloc (.cells #[.int .i64 127, .int .i64 2047, .int .i64 65535] 3)).cell? ⟨w1.heap.size, 0, none⟩ = some (.int .i64 127) := by rw [World.cell?_alloc_at _ _ _ _ rfl]; rfl
  have x1 : (w1.alloc (.cells #[.int .i64 127, .int .i64 2047, .int .i64 65535] 3)).cell? ⟨w1.heap.size, 1, none⟩ = some (.int .i64 2047) := by rw [World.cell?_alloc_at _ _ _ _ rfl]; rfl
  have x2 : (w1.alloc (.cells #[.int .i64 127, .int .i64 2047, .int .i64 65535] 3)).cell? ⟨w1.heap.size, 2, none⟩ = some (.int .i64 65535) := by rw [World.cell?_alloc_at _ _ _ _ rfl]; rfl
  have hb2 : Below w.heap.size w (w1.alloc (.cells #[.int .i64 127, .int .i64 2047, .int .i64 65535] 3)) := btr hb1 ((Below.refl _ _).alloc (Nat.le_refl _) _)
  generalize w1.alloc (.cells #[.int .i64 127, .int .i64 2047, .int .i64 65535] 3) = w2 at *
  clear hb1
  go_loop [9, 50] (fun n i => (i = .int .i64 0 ∧ n = .int .i64 1) ∨ (i = .int .i64 1 ∧ n = .int .i64 2) ∨ (i = .int .i64 2 ∧ n = .int .i64 2) ∨ (i = .int .i64 3 ∧ n = .int .i64 2)) (fun _ i => 3 - (RowKit.intOf i).toNat)
  case atStart => exact .inl ⟨rfl, rfl⟩
  case round =>
    rcases hrel with ⟨rfl, rfl⟩ | ⟨rfl, rfl⟩ | ⟨rfl, rfl⟩ | ⟨rfl, rfl⟩
    · go_wp2_with fail
      exact ⟨.inr (.inl ⟨rfl, rfl⟩), by simp [RowKit.intOf]⟩
    · go_wp2_with fail
      exact ⟨.inr (.inr (.inl ⟨rfl, rfl⟩)), by simp [RowKit.intOf]⟩
    · go_wp2_with fail
      exact ⟨.inr (.inr (.inr ⟨rfl, rfl⟩)), by simp [RowKit.intOf]⟩
    · go_wp2_with (first | (go_at_call 14; (with_reducible refine (CS.out _ (hT'.out.below (btr hb2 ((Below.refl _ _).alloc (Nat.le_refl _) _)))).mono ?_); rintro e w4 ⟨g, cc, rfl, hcc, hg, hcell, hb4⟩) | (go_at_call 10; (with_reducible refine (K.out _ (btr (btr hb2 ((Below.refl _ _).alloc (Nat.le_refl _) _)) hb4)).mono ?_); rintro e w5 ⟨rfl, hb5⟩))
      go_ret
      exact ⟨rfl, btr (btr (btr hb2 ((Below.refl _ _).alloc (Nat.le_refl _) _)) hb4) hb5⟩

set_option maxRecDepth 100000 in
theorem one_g3_lo (c b : Int) (bb : UInt8) (hbb : (bb.toNat : Int) = b) (k0 : 2048 ≤ c) (k1 : c < 55296) (b0 : 0 ≤ b) (b1 : b < 128) (w : World) (hT : TabsU w) :
    Calls Tryd.prog 4 #[.int .i64 c, .int .u8 b] w fun e w' => e = .returned (.bool true) ∧ Below w.heap.size w w' := by
  have K := Lib.hid (fun W (hb : Below w.heap.size w W) => awake_any W (hT.below hb))
  have D := conv_byte bb b hbb
  have CS := Lib.hid (signs_byte' bb b ⟨_, sgs_byte_lo bb (by omega), hbb⟩)
  obtain ⟨n, hn⟩ : ∃ n : Nat, c = n := ⟨c.toNat, by omega⟩
  have C1 := bytes_one n (by unfold isSg; simp; omega) (sgs_good (by omega)) w hT
  have hE := encode_one (n := n) (by omega)
  have hL := one_size n 3 (by omega) (by omega)
  rw [← hn] at C1 hE
  generalize oneB n = Ls at *
  clear hn
  replace C1 := Lib.hid C1
  have p0 : 0 ≤ c := by omega
  have p1 : c < 55296 := by omega
  have p2 : ¬ 57343 < c := by omega
  have p3 : c ≤ 1114111 := by omega
  have p4 : ¬ 1114240 ≤ c := by omega
  have p5 : c ≤ 1114367 := by omega
  have p6 : 127 < c := by omega
  have p7 : 2047 < c := by omega
  have p8 : ¬ 65535 < c := by omega
  have hT' := Lib.hid hT
  clear hT hbb
  go_enter Tryd.func4, Tryd.ntmps4
  go_wp2_with (first | (go_at_call 11; (with_reducible refine C1.out.mono ?_); rintro e w1 ⟨rfl, hb1⟩))
  have x0 : (w1.alloc (.cells #[.int .i64 127, .int .i64 2047, .int .i64 65535] 3)).cell? ⟨w1.heap.size, 0, none⟩ = some (.int .i64 127) := by rw [World.cell?_alloc_at _ _ _ _ rfl]; rfl
  have x1 : (w1.alloc (.cells #[.int .i64 127, .int .i64 2047, .int .i64 65535] 3)).cell? ⟨w1.heap.size, 1, none⟩ = some (.int .i64 2047) := by rw [World.cell?_alloc_at _ _ _ _ rfl]; rfl
  have x2 : (w1.alloc (.cells #[.int .i64 127, .int .i64 2047, .int .i64 65535] 3)).cell? ⟨w1.heap.size, 2, none⟩ = some (.int .i64 65535) := by rw [World.cell?_alloc_at _ _ _ _ rfl]; rfl
  have hb2 : Below w.heap.size w (w1.alloc (.cells #[.int .i64 127, .int .i64 2047, .int .i64 65535] 3)) := btr hb1 ((Below.refl _ _).alloc (Nat.le_refl _) _)
  generalize w1.alloc (.cells #[.int .i64 127, .int .i64 2047, .int .i64 65535] 3) = w2 at *
  clear hb1
  go_loop [9, 50] (fun n i => (i = .int .i64 0 ∧ n = .int .i64 1) ∨ (i = .int .i64 1 ∧ n = .int .i64 2) ∨ (i = .int .i64 2 ∧ n = .int .i64 3) ∨ (i = .int .i64 3 ∧ n = .int .i64 3)) (fun _ i => 3 - (RowKit.intOf i).toNat)
  case atStart => exact .inl ⟨rfl, rfl⟩
  case round =>
    rcases hrel with ⟨rfl, rfl⟩ | ⟨rfl, rfl⟩ | ⟨rfl, rfl⟩ | ⟨rfl, rfl⟩
    · go_wp2_with fail
      exact ⟨.inr (.inl ⟨rfl, rfl⟩), by simp [RowKit.intOf]⟩
    · go_wp2_with fail
      exact ⟨.inr (.inr (.inl ⟨rfl, rfl⟩)), by simp [RowKit.intOf]⟩
    · go_wp2_with fail
      exact ⟨.inr (.inr (.inr ⟨rfl, rfl⟩)), by simp [RowKit.intOf]⟩
    · go_wp2_with (first | (go_at_call 14; (with_reducible refine (CS.out _ (hT'.out.below (btr hb2 ((Below.refl _ _).alloc (Nat.le_refl _) _)))).mono ?_); rintro e w4 ⟨g, cc, rfl, hcc, hg, hcell, hb4⟩) | (go_at_call 10; (with_reducible refine (K.out _ (btr (btr hb2 ((Below.refl _ _).alloc (Nat.le_refl _) _)) hb4)).mono ?_); rintro e w5 ⟨rfl, hb5⟩))
      go_ret
      exact ⟨rfl, btr (btr (btr hb2 ((Below.refl _ _).alloc (Nat.le_refl _) _)) hb4) hb5⟩

set_option maxRecDepth 100000 in
theorem one_g4_lo (c b : Int) (bb : UInt8) (hbb : (bb.toNat : Int) = b) (k0 : 57344 ≤ c) (k1 : c < 65536) (b0 : 0 ≤ b) (b1 : b < 128) (w : World) (hT : TabsU w) :
    Calls Tryd.prog 4 #[.int .i64 c, .int .u8 b] w fun e w' => e = .returned (.bool true) ∧ Below w.heap.size w w' := by
  have K := Lib.hid (fun W (hb : Below w.heap.size w W) => awake_any W (hT.below hb))
  have D := conv_byte bb b hbb
  have CS := Lib.hid (signs_byte' bb b ⟨_, sgs_byte_lo bb (by omega), hbb⟩)
  obtain ⟨n, hn⟩ : ∃ n : Nat, c = n := ⟨c.toNat, by omega⟩
  have C1 := bytes_one n (by unfold isSg; simp; omega) (sgs_good (by omega)) w hT
  have hE := encode_one (n := n) (by omega)
  have hL := one_size n 3 (by omega) (by omega)
  rw [← hn] at C1 hE
  generalize oneB n = Ls at *
  clear hn
  replace C1 := Lib.hid C1
  have p0 : 0 ≤ c := by omega
  have p1 : ¬ c < 55296 := by omega
  have p2 : 57343 < c := by omega
  have p3 : c ≤ 1114111 := by omega
  have p4 : ¬ 1114240 ≤ c := by omega
  have p5 : c ≤ 1114367 := by omega
  have p6 : 127 < c := by omega
  have p7 : 2047 < c := by omega
  have p8 : ¬ 65535 < c := by omega
  have hT' := Lib.hid hT
  clear hT hbb
  go_enter Tryd.func4, Tryd.ntmps4
  go_wp2_with (first | (go_at_call 11; (with_reducible refine C1.out.mono ?_); rintro e w1 ⟨rfl, hb1⟩))
  have x0 : (w1.alloc (.cells #[.int .i64 127, .int .i64 2047, .int .i64 65535] 3)).cell? ⟨w1.heap.size, 0, none⟩ = some (.int .i64 127) := by rw [World.cell?_alloc_at _ _ _ _ rfl]; rfl
  have x1 : (w1.alloc (.cells #[.int .i64 127, .int .i64 2047, .int .i64 65535] 3)).cell? ⟨w1.heap.size, 1, none⟩ = some (.int .i64 2047) := by rw [World.cell?_alloc_at _ _ _ _ rfl]; rfl
  have x2 : (w1.alloc (.cells #[.int .i64 127, .int .i64 2047, .int .i64 65535] 3)).cell? ⟨w1.heap.size, 2, none⟩ = some (.int .i64 65535) := by rw [World.cell?_alloc_at _ _ _ _ rfl]; rfl
  have hb2 : Below w.heap.size w (w1.alloc (.cells #[.int .i64 127, .int .i64 2047, .int .i64 65535] 3)) := btr hb1 ((Below.refl _ _).alloc (Nat.le_refl _) _)
  generalize w1.alloc (.cells #[.int .i64 127, .int .i64 2047, .int .i64 65535] 3) = w2 at *
  clear hb1
  go_loop [9, 50] (fun n i => (i = .int .i64 0 ∧ n = .int .i64 1) ∨ (i = .int .i64 1 ∧ n = .int .i64 2) ∨ (i = .int .i64 2 ∧ n = .int .i64 3) ∨ (i = .int .i64 3 ∧ n = .int .i64 3)) (fun _ i => 3 - (RowKit.intOf i).toNat)
  case atStart => exact .inl ⟨rfl, rfl⟩
  case round =>
    rcases hrel with ⟨rfl, rfl⟩ | ⟨rfl, rfl⟩ | ⟨rfl, rfl⟩ | ⟨rfl, rfl⟩
    · go_wp2_with fail
      exact ⟨.inr (.inl ⟨rfl, rfl⟩), by simp [RowKit.intOf]⟩
    · go_wp2_with fail
      exact ⟨.inr (.inr (.inl ⟨rfl, rfl⟩)), by simp [RowKit.intOf]⟩
    · go_wp2_with fail
      exact ⟨.inr (.inr (.inr ⟨rfl, rfl⟩)), by simp [RowKit.intOf]⟩
    · go_wp2_with (first | (go_at_call 14; (with_reducible refine (CS.out _ (hT'.out.below (btr hb2 ((Below.refl _ _).alloc (Nat.le_refl _) _)))).mono ?_); rintro e w4 ⟨g, cc, rfl, hcc, hg, hcell, hb4⟩) | (go_at_call 10; (with_reducible refine (K.out _ (btr (btr hb2 ((Below.refl _ _).alloc (Nat.le_refl _) _)) hb4)).mono ?_); rintro e w5 ⟨rfl, hb5⟩))
      go_ret
      exact ⟨rfl, btr (btr (btr hb2 ((Below.refl _ _).alloc (Nat.le_refl _) _)) hb4) hb5⟩

set_option maxRecDepth 100000 in
theorem one_g5_lo (c b : Int) (bb : UInt8) (hbb : (bb.toNat : Int) = b) (k0 : 65536 ≤ c) (k1 : c ≤ 1114111) (b0 : 0 ≤ b) (b1 : b < 128) (w : World) (hT : TabsU w) :
    Calls Tryd.prog 4 #[.int .i64 c, .int .u8 b] w fun e w' => e = .returned (.bool true) ∧ Below w.heap.size w w' := by
  have K := Lib.hid (fun W (hb : Below w.heap.size w W) => awake_any W (hT.below hb))
  have D := conv_byte bb b hbb
  have CS := Lib.hid (signs_byte' bb b ⟨_, sgs_byte_lo bb (by omega), hbb⟩)
  obtain ⟨n, hn⟩ : ∃ n : Nat, c = n := ⟨c.toNat, by omega⟩
  have C1 := bytes_one n (by unfold isSg; simp; omega) (sgs_good (by omega)) w hT
  have hE := encode_one (n := n) (by omega)
  have hL := one_size n 4 (by omega) (by omega)
  rw [← hn] at C1 hE
  generalize oneB n = Ls at *
  clear hn
  replace C1 := Lib.hid C1
  have p0 : 0 ≤ c := by omega
  have p1 : ¬ c < 55296 := by omega
  have p2 : 57343 < c := by omega
  have p3 : c ≤ 1114111 := by omega
  have p4 : ¬ 1114240 ≤ c := by omega
  have p5 : c ≤ 1114367 := by omega
  have p6 : 127 < c := by omega
  have p7 : 2047 < c := by omega
  have p8 : 65535 < c := by omega
  have hT' := Lib.hid hT
  clear hT hbb
  go_enter Tryd.func4, Tryd.ntmps4
  go_wp2_with (first | (go_at_call 11; (with_reducible refine C1.out.mono ?_); rintro e w1 ⟨rfl, hb1⟩))
  have x0 : (w1.alloc (.cells #[.int .i64 127, .int .i64 2047, .int .i64 65535] 3)).cell? ⟨w1.heap.size, 0, none⟩ = some (.int .i64 127) := by rw [World.cell?_alloc_at _ _ _ _ rfl]; rfl
  have x1 : (w1.alloc (.cells #[.int .i64 127, .int .i64 2047, .int .i64 65535] 3)).cell? ⟨w1.heap.size, 1, none⟩ = some (.int .i64 2047) := by rw [World.cell?_alloc_at _ _ _ _ rfl]; rfl
  have x2 : (w1.alloc (.cells #[.int .i64 127, .int .i64 2047, .int .i64 65535] 3)).cell? ⟨w1.heap.size, 2, none⟩ = some (.int .i64 65535) := by rw [World.cell?_alloc_at _ _ _ _ rfl]; rfl
  have hb2 : Below w.heap.size w (w1.alloc (.cells #[.int .i64 127, .int .i64 2047, .int .i64 65535] 3)) := btr hb1 ((Below.refl _ _).alloc (Nat.le_refl _) _)
  generalize w1.alloc (.cells #[.int .i64 127, .int .i64 2047, .int .i64 65535] 3) = w2 at *
  clear hb1
  go_loop [9, 50] (fun n i => (i = .int .i64 0 ∧ n = .int .i64 1) ∨ (i = .int .i64 1 ∧ n = .int .i64 2) ∨ (i = .int .i64 2 ∧ n = .int .i64 3) ∨ (i = .int .i64 3 ∧ n = .int .i64 4)) (fun _ i => 3 - (RowKit.intOf i).toNat)
  case atStart => exact .inl ⟨rfl, rfl⟩
  case round =>
    rcases hrel with ⟨rfl, rfl⟩ | ⟨rfl, rfl⟩ | ⟨rfl, rfl⟩ | ⟨rfl, rfl⟩
    · go_wp2_with fail
      exact ⟨.inr (.inl ⟨rfl, rfl⟩), by simp [RowKit.intOf]⟩
    · go_wp2_with fail
      exact ⟨.inr (.inr (.inl ⟨rfl, rfl⟩)), by simp [RowKit.intOf]⟩
    · go_wp2_with fail
      exact ⟨.inr (.inr (.inr ⟨rfl, rfl⟩)), by simp [RowKit.intOf]⟩
    · go_wp2_with (first | (go_at_call 14; (with_reducible refine (CS.out _ (hT'.out.below (btr hb2 ((Below.refl _ _).alloc (Nat.le_refl _) _)))).mono ?_); rintro e w4 ⟨g, cc, rfl, hcc, hg, hcell, hb4⟩) | (go_at_call 10; (with_reducible refine (K.out _ (btr (btr hb2 ((Below.refl _ _).alloc (Nat.le_refl _) _)) hb4)).mono ?_); rintro e w5 ⟨rfl, hb5⟩))
      go_ret
      exact ⟨rfl, btr (btr (btr hb2 ((Below.refl _ _).alloc (Nat.le_refl _) _)) hb4) hb5⟩

set_option maxRecDepth 100000 in
theorem one_r_lo (c b : Int) (bb : UInt8) (hbb : (bb.toNat : Int) = b) (k0 : 1114240 ≤ c) (k1 : c ≤ 1114367) (b0 : 0 ≤ b) (b1 : b < 128) (w : World) (hT : TabsU w) :
    Calls Tryd.prog 4 #[.int .i64 c, .int .u8 b] w fun e w' => e = .returned (.bool true) ∧ Below w.heap.size w w' := by
  have K := Lib.hid (fun W (hb : Below w.heap.size w W) => awake_any W (hT.below hb))
  have D := conv_byte bb b hbb
  have CS := Lib.hid (signs_byte' bb b ⟨_, sgs_byte_lo bb (by omega), hbb⟩)
  obtain ⟨n, hn⟩ : ∃ n : Nat, c = n := ⟨c.toNat, by omega⟩
  have C1 := bytes_one n (by unfold isSg; simp; omega) (sgs_raw (by omega)) w hT
  rw [← hn] at C1
  generalize oneB n = Ls at *
  clear hn
  replace C1 := Lib.hid C1
  have p0 : 0 ≤ c := by omega
  have p1 : ¬ c < 55296 := by omega
  have p2 : 57343 < c := by omega
  have p3 : ¬ c ≤ 1114111 := by omega
  have p4 : 1114240 ≤ c := by omega
  have p5 : c ≤ 1114367 := by omega
  have p6 : 127 < c := by omega
  have p7 : 2047 < c := by omega
  have p8 : 65535 < c := by omega
  have hT' := Lib.hid hT
  clear hT hbb
  go_enter Tryd.func4, Tryd.ntmps4
  go_wp2_with (first | (go_at_call 11; (with_reducible refine C1.out.mono ?_); rintro e w1 ⟨rfl, hb1⟩) | (go_at_call 14; (with_reducible refine (CS.out _ (hT'.out.below (btr hb1 ((Below.refl _ _).alloc (Nat.le_refl _) _)))).mono ?_); rintro e w4 ⟨g, cc, rfl, hcc, hg, hcell, hb4⟩) | (go_at_call 10; (with_reducible refine (K.out _ (btr (btr hb1 ((Below.refl _ _).alloc (Nat.le_refl _) _)) hb4)).mono ?_); rintro e w5 ⟨rfl, hb5⟩))
  go_ret
  exact ⟨rfl, btr (btr (btr hb1 ((Below.refl _ _).alloc (Nat.le_refl _) _)) hb4) hb5⟩

set_option maxRecDepth 100000 in
theorem one_b1_lo (c b : Int) (bb : UInt8) (hbb : (bb.toNat : Int) = b) (k0 : c < 0) (b0 : 0 ≤ b) (b1 : b < 128) (w : World) (hT : TabsU w) :
    Calls Tryd.prog 4 #[.int .i64 c, .int .u8 b] w fun e w' => e = .returned (.bool true) ∧ Below w.heap.size w w' := by
  have K := Lib.hid (fun W (hb : Below w.heap.size w W) => awake_any W (hT.below hb))
  have D := conv_byte bb b hbb
  have CS := Lib.hid (signs_byte' bb b ⟨_, sgs_byte_lo bb (by omega), hbb⟩)
  have C1 := bytes_none c (by unfold isZ; simp; omega) w
  replace C1 := Lib.hid C1
  have p0 : ¬ 0 ≤ c := by omega
  have p1 : c < 55296 := by omega
  have p2 : ¬ 57343 < c := by omega
  have p3 : c ≤ 1114111 := by omega
  have p4 : ¬ 1114240 ≤ c := by omega
  have p5 : c ≤ 1114367 := by omega
  have p6 : ¬ 127 < c := by omega
  have p7 : ¬ 2047 < c := by omega
  have p8 : ¬ 65535 < c := by omega
  have hT' := Lib.hid hT
  clear hT hbb
  go_enter Tryd.func4, Tryd.ntmps4
  go_wp2_with (first | (go_at_call 11; (with_reducible refine C1.out.mono ?_); rintro e w1 ⟨rfl, hb1⟩) | (go_at_call 14; (with_reducible refine (CS.out _ (hT'.out.below (btr hb1 ((Below.refl _ _).alloc (Nat.le_refl _) _)))).mono ?_); rintro e w4 ⟨g, cc, rfl, hcc, hg, hcell, hb4⟩) | (go_at_call 10; (with_reducible refine (K.out _ (btr (btr hb1 ((Below.refl _ _).alloc (Nat.le_refl _) _)) hb4)).mono ?_); rintro e w5 ⟨rfl, hb5⟩))
  go_ret
  exact ⟨rfl, btr (btr (btr hb1 ((Below.refl _ _).alloc (Nat.le_refl _) _)) hb4) hb5⟩

set_option maxRecDepth 100000 in
theorem one_b2_lo (c b : Int) (bb : UInt8) (hbb : (bb.toNat : Int) = b) (k0 : 55296 ≤ c) (k1 : c ≤ 57343) (b0 : 0 ≤ b) (b1 : b < 128) (w : World) (hT : TabsU w) :
    Calls Tryd.prog 4 #[.int .i64 c, .int .u8 b] w fun e w' => e = .returned (.bool true) ∧ Below w.heap.size w w' := by
  have K := Lib.hid (fun W (hb : Below w.heap.size w W) => awake_any W (hT.below hb))
  have D := conv_byte bb b hbb
  have CS := Lib.hid (signs_byte' bb b ⟨_, sgs_byte_lo bb (by omega), hbb⟩)
  have C1 := bytes_none c (by unfold isZ; simp; omega) w
  replace C1 := Lib.hid C1
  have p0 : 0 ≤ c := by omega
  have p1 : ¬ c < 55296 := by omega
  have p2 : ¬ 57343 < c := by omega
  have p3 : c ≤ 1114111 := by omega
  have p4 : ¬ 1114240 ≤ c := by omega
  have p5 : c ≤ 1114367 := by omega
  have p6 : 127 < c := by omega
  have p7 : 2047 < c := by omega
  have p8 : ¬ 65535 < c := by omega
  have hT' := Lib.hid hT
  clear hT hbb
  go_enter Tryd.func4, Tryd.ntmps4
  go_wp2_with (first | (go_at_call 11; (with_reducible refine C1.out.mono ?_); rintro e w1 ⟨rfl, hb1⟩) | (go_at_call 14; (with_reducible refine (CS.out _ (hT'.out.below (btr hb1 ((Below.refl _ _).alloc (Nat.le_refl _) _)))).mono ?_); rintro e w4 ⟨g, cc, rfl, hcc, hg, hcell, hb4⟩) | (go_at_call 10; (with_reducible refine (K.out _ (btr (btr hb1 ((Below.refl _ _).alloc (Nat.le_refl _) _)) hb4)).mono ?_); rintro e w5 ⟨rfl, hb5⟩))
  go_ret
  exact ⟨rfl, btr (btr (btr hb1 ((Below.refl _ _).alloc (Nat.le_refl _) _)) hb4) hb5⟩

set_option maxRecDepth 100000 in
theorem one_b3_lo (c b : Int) (bb : UInt8) (hbb : (bb.toNat : Int) = b) (k0 : 1114112 ≤ c) (k1 : c < 1114240) (b0 : 0 ≤ b) (b1 : b < 128) (w : World) (hT : TabsU w) :
    Calls Tryd.prog 4 #[.int .i64 c, .int .u8 b] w fun e w' => e = .returned (.bool true) ∧ Below w.heap.size w w' := by
  have K := Lib.hid (fun W (hb : Below w.heap.size w W) => awake_any W (hT.below hb))
  have D := conv_byte bb b hbb
  have CS := Lib.hid (signs_byte' bb b ⟨_, sgs_byte_lo bb (by omega), hbb⟩)
  have C1 := bytes_none c (by unfold isZ; simp; omega) w
  replace C1 := Lib.hid C1
  have p0 : 0 ≤ c := by omega
  have p1 : ¬ c < 55296 := by omega
  have p2 : 57343 < c := by omega
  have p3 : ¬ c ≤ 1114111 := by omega
  have p4 : ¬ 1114240 ≤ c := by omega
  have p5 : c ≤ 1114367 := by omega
  have p6 : 127 < c := by omega
  have p7 : 2047 < c := by omega
  have p8 : 65535 < c := by omega
  have hT' := Lib.hid hT
  clear hT hbb
  go_enter Tryd.func4, Tryd.ntmps4
  go_wp2_with (first | (go_at_call 11; (with_reducible refine C1.out.mono ?_); rintro e w1 ⟨rfl, hb1⟩) | (go_at_call 14; (with_reducible refine (CS.out _ (hT'.out.below (btr hb1 ((Below.refl _ _).alloc (Nat.le_refl _) _)))).mono ?_); rintro e w4 ⟨g, cc, rfl, hcc, hg, hcell, hb4⟩) | (go_at_call 10; (with_reducible refine (K.out _ (btr (btr hb1 ((Below.refl _ _).alloc (Nat.le_refl _) _)) hb4)).mono ?_); rintro e w5 ⟨rfl, hb5⟩))
  go_ret
  exact ⟨rfl, btr (btr (btr hb1 ((Below.refl _ _).alloc (Nat.le_refl _) _)) hb4) hb5⟩

set_option maxRecDepth 100000 in
theorem one_b4_lo (c b : Int) (bb : UInt8) (hbb : (bb.toNat : Int) = b) (k0 : 1114367 < c) (b0 : 0 ≤ b) (b1 : b < 128) (w : World) (hT : TabsU w) :
    Calls Tryd.prog 4 #[.int .i64 c, .int .u8 b] w fun e w' => e = .returned (.bool true) ∧ Below w.heap.size w w' := by
  have K := Lib.hid (fun W (hb : Below w.heap.size w W) => awake_any W (hT.below hb))
  have D := conv_byte bb b hbb
  have CS := Lib.hid (signs_byte' bb b ⟨_, sgs_byte_lo bb (by omega), hbb⟩)
  have C1 := bytes_none c (by unfold isZ; simp; omega) w
  replace C1 := Lib.hid C1
  have p0 : 0 ≤ c := by omega
  have p1 : ¬ c < 55296 := by omega
  have p2 : 57343 < c := by omega
  have p3 : ¬ c ≤ 1114111 := by omega
  have p4 : 1114240 ≤ c := by omega
  have p5 : ¬ c ≤ 1114367 := by omega
  have p6 : 127 < c := by omega
  have p7 : 2047 < c := by omega
  have p8 : 65535 < c := by omega
  have hT' := Lib.hid hT
  clear hT hbb
  go_enter Tryd.func4, Tryd.ntmps4
  go_wp2_with (first | (go_at_call 11; (with_reducible refine C1.out.mono ?_); rintro e w1 ⟨rfl, hb1⟩) | (go_at_call 14; (with_reducible refine (CS.out _ (hT'.out.below (btr hb1 ((Below.refl _ _).alloc (Nat.le_refl _) _)))).mono ?_); rintro e w4 ⟨g, cc, rfl, hcc, hg, hcell, hb4⟩) | (go_at_call 10; (with_reducible refine (K.out _ (btr (btr hb1 ((Below.refl _ _).alloc (Nat.le_refl _) _)) hb4)).mono ?_); rintro e w5 ⟨rfl, hb5⟩))
  go_ret
  exact ⟨rfl, btr (btr (btr hb1 ((Below.refl _ _).alloc (Nat.le_refl _) _)) hb4) hb5⟩
end Go.Proofs.YtcokkmjfdnigpaaDoor
