
/- A sign's bytes put behind others (utext.put), and signs' bytes as a text (utext.Put), for every number that is a sign or not above the last. -/
import Derived.Test.YtmpnblibbcocpaaDoorTextB
import Derived.Laws.BytesArg
namespace Go.Proofs.YtmpnblibbcocpaaDoor
open Go.ChangeShapes Go.WideShapes Go.ChangeAt Go.RowKit Go.Lib

theorem info5 : (Tryd.prog.info? 5).map (fun i => (i.zero, i.size, i.bytes)) = some (some (.int .u8 0), 1, 1) := by kernel_rfl
/-- bytes as cells -/
abbrev bc (l : List UInt8) : List Value := l.map fun b => Value.int .u8 (b.toNat : Int)
theorem and63 (y : Int) (h0 : 0 ≤ y) (h1 : y < 256) : bits .and .u8 y 63 = y % 64 := by
  obtain ⟨n, rfl⟩ := Int.eq_ofNat_of_zero_le h0
  have h : ∀ k : Fin 256, bits .and .u8 ((k.val : Nat) : Int) 63 = ((k.val : Nat) : Int) % 64 := by decide +kernel
  exact h ⟨n, by omega⟩
theorem wrap8 (x : Int) : IntKind.u8.wrap x = x % 256 := by simp [IntKind.wrap, IntKind.bits, IntKind.signed]
theorem b1 {n : Nat} {z : Int} (h : z = (n % 256 : Nat)) : Value.int .u8 z = Value.int .u8 ((UInt8.ofNat n).toNat : Int) := by
  rw [h]; simp

theorem one_big {c : Nat} (h : 1114112 ≤ c) : oneB c = [UInt8.ofNat c] := by
  unfold oneB
  rw [if_pos h]
  have : UInt8.ofNat (c - 1114112) = UInt8.ofNat c := by
    apply UInt8.toNat_inj.1
    simp
    omega
  rw [this]

set_option maxRecDepth 100000 in
theorem put_0 (v : Value) (n base c : Nat) (xs : List Value) (w : World) (hown : w.ownsRow base 5 1 v n xs) (hn : n ≤ 8000000) (hbase : base ≤ w.heap.size) (h0 : (1114112 : Int) ≤ c) :
    Calls Tryd.prog 32 #[v, .int .i64 c] w fun e w' => ∃ v', e = .returned v' ∧ w'.ownsRow base 5 1 v' (n + (oneB c).length) (xs ++ bc (oneB c)) ∧ Below base w w' := by
  obtain ⟨i0, hi, hz0, hz1, hz2⟩ := info_parts info5
  have e : oneB c = [UInt8.ofNat (c)] := one_big (by omega)
  rw [e]
  clear e
  go_enter Tryd.func32, Tryd.ntmps32
  go_wp2_with (at_builtin; refine wpList_append_own _ rfl _ _ 70 rfl base 5 i0 (.int .u8 0) 1 1 Tryd.underlying70 hi hz0 hz1 hz2 rfl (by decide) _ _ _ rfl (hown.alloc _) ⟨w.heap.size, 0, none⟩ 1 1 [.int .u8 ((UInt8.ofNat (c)).toNat : Int)] rfl rfl ?c1 ?c2 ?c3 ?c4 ?c5 ?_)
  case c1 =>
    intro j u hj
    match j, hj with
    | 0, hj => simp at hj; subst hj; first | (simp; done) | (simp; omega) | (simp [Addr.add]; done) | (simp [Addr.add]; omega)
    | j + 1, hj => simp at hj
  case c2 => first | rfl | exact ⟨rfl, rfl⟩ | exact ⟨rfl, rfl, rfl⟩ | exact ⟨rfl, rfl, rfl, rfl⟩ | (intro u hu; simp at hu; rcases hu with rfl <;> rfl)
  case c3 => unfold maxLen; omega
  case c4 => omega
  case c5 => first | omega | (simp; omega)
  intro v' w2 hown' hgrow _
  have hbb : Below base w w2 := ((Below.refl _ _).alloc hbase _).grown hgrow (by simp; omega) (fun j hj => (hown.lt j hj).1)
  clear hgrow hown
  go_wp2
  go_ret
  exact ⟨_, rfl, hown', hbb⟩

set_option maxRecDepth 100000 in
theorem put_1 (v : Value) (n base c : Nat) (xs : List Value) (w : World) (hown : w.ownsRow base 5 1 v n xs) (hn : n ≤ 8000000) (hbase : base ≤ w.heap.size) (h0 : ¬ (1114112 : Int) ≤ c) (h1 : (c : Int) < 128) :
    Calls Tryd.prog 32 #[v, .int .i64 c] w fun e w' => ∃ v', e = .returned v' ∧ w'.ownsRow base 5 1 v' (n + (oneB c).length) (xs ++ bc (oneB c)) ∧ Below base w w' := by
  obtain ⟨i0, hi, hz0, hz1, hz2⟩ := info_parts info5
  have e : oneB c = [UInt8.ofNat (c)] := by unfold oneB; rw [if_neg (by omega), if_pos (by omega)]
  rw [e]
  clear e
  go_enter Tryd.func32, Tryd.ntmps32
  go_wp2_with (at_builtin; refine wpList_append_own _ rfl _ _ 70 rfl base 5 i0 (.int .u8 0) 1 1 Tryd.underlying70 hi hz0 hz1 hz2 rfl (by decide) _ _ _ rfl (hown.alloc _) ⟨w.heap.size, 0, none⟩ 1 1 [.int .u8 ((UInt8.ofNat (c)).toNat : Int)] rfl rfl ?c1 ?c2 ?c3 ?c4 ?c5 ?_)
  case c1 =>
    intro j u hj
    match j, hj with
    | 0, hj => simp at hj; subst hj; first | (simp; done) | (simp; omega) | (simp [Addr.add]; done) | (simp [Addr.add]; omega)
    | j + 1, hj => simp at hj
  case c2 => first | rfl | exact ⟨rfl, rfl⟩ | exact ⟨rfl, rfl, rfl⟩ | exact ⟨rfl, rfl, rfl, rfl⟩ | (intro u hu; simp at hu; rcases hu with rfl <;> rfl)
  case c3 => unfold maxLen; omega
  case c4 => omega
  case c5 => first | omega | (simp; omega)
  intro v' w2 hown' hgrow _
  have hbb : Below base w w2 := ((Below.refl _ _).alloc hbase _).grown hgrow (by simp; omega) (fun j hj => (hown.lt j hj).1)
  clear hgrow hown
  go_wp2
  go_ret
  exact ⟨_, rfl, hown', hbb⟩

set_option maxRecDepth 100000 in
theorem put_2 (v : Value) (n base c : Nat) (xs : List Value) (w : World) (hown : w.ownsRow base 5 1 v n xs) (hn : n ≤ 8000000) (hbase : base ≤ w.heap.size) (h0 : ¬ (1114112 : Int) ≤ c) (h1 : ¬ (c : Int) < 128) (h2 : (c : Int) < 2048) :
    Calls Tryd.prog 32 #[v, .int .i64 c] w fun e w' => ∃ v', e = .returned v' ∧ w'.ownsRow base 5 1 v' (n + (oneB c).length) (xs ++ bc (oneB c)) ∧ Below base w w' := by
  obtain ⟨i0, hi, hz0, hz1, hz2⟩ := info_parts info5
  have e : oneB c = [UInt8.ofNat (192 + c / 64), UInt8.ofNat (128 + c % 64)] := by unfold oneB; rw [if_neg (by omega), if_neg (by omega), if_pos (by omega)]
  rw [e]
  clear e
  go_enter Tryd.func32, Tryd.ntmps32
  go_wp2_with (at_builtin; refine wpList_append_own _ rfl _ _ 70 rfl base 5 i0 (.int .u8 0) 1 1 Tryd.underlying70 hi hz0 hz1 hz2 rfl (by decide) _ _ _ rfl (hown.alloc _) ⟨w.heap.size, 0, none⟩ 2 2 [.int .u8 ((UInt8.ofNat (192 + c / 64)).toNat : Int), .int .u8 ((UInt8.ofNat (128 + c % 64)).toNat : Int)] rfl rfl ?c1 ?c2 ?c3 ?c4 ?c5 ?_)
  case c1 =>
    intro j u hj
    match j, hj with
    | 0, hj => simp at hj; subst hj; first | (simp; done) | (simp; omega) | (simp [Addr.add]; done) | (simp [Addr.add]; omega)
    | 1, hj => simp at hj; subst hj; first | (simp; done) | (simp; omega) | (simp [Addr.add]; done) | (simp [Addr.add]; omega)
    | j + 2, hj => simp at hj
  case c2 => first | rfl | exact ⟨rfl, rfl⟩ | exact ⟨rfl, rfl, rfl⟩ | exact ⟨rfl, rfl, rfl, rfl⟩ | (intro u hu; simp at hu; rcases hu with rfl | rfl <;> rfl)
  case c3 => unfold maxLen; omega
  case c4 => omega
  case c5 => first | omega | (simp; omega)
  intro v' w2 hown' hgrow _
  have hbb : Below base w w2 := ((Below.refl _ _).alloc hbase _).grown hgrow (by simp; omega) (fun j hj => (hown.lt j hj).1)
  clear hgrow hown
  go_wp2
  go_ret
  exact ⟨_, rfl, hown', hbb⟩

set_option maxRecDepth 100000 in
theorem put_3 (v : Value) (n base c : Nat) (xs : List Value) (w : World) (hown : w.ownsRow base 5 1 v n xs) (hn : n ≤ 8000000) (hbase : base ≤ w.heap.size) (h0 : ¬ (1114112 : Int) ≤ c) (h1 : ¬ (c : Int) < 128) (h2 : ¬ (c : Int) < 2048) (h3 : (c : Int) < 65536) :
    Calls Tryd.prog 32 #[v, .int .i64 c] w fun e w' => ∃ v', e = .returned v' ∧ w'.ownsRow base 5 1 v' (n + (oneB c).length) (xs ++ bc (oneB c)) ∧ Below base w w' := by
  obtain ⟨i0, hi, hz0, hz1, hz2⟩ := info_parts info5
  have e : oneB c = [UInt8.ofNat (224 + c / 4096), UInt8.ofNat (128 + c / 64 % 64), UInt8.ofNat (128 + c % 64)] := by unfold oneB; rw [if_neg (by omega), if_neg (by omega), if_neg (by omega), if_pos (by omega)]
  rw [e]
  clear e
  go_enter Tryd.func32, Tryd.ntmps32
  go_wp2_with (at_builtin; refine wpList_append_own _ rfl _ _ 70 rfl base 5 i0 (.int .u8 0) 1 1 Tryd.underlying70 hi hz0 hz1 hz2 rfl (by decide) _ _ _ rfl (hown.alloc _) ⟨w.heap.size, 0, none⟩ 3 3 [.int .u8 ((UInt8.ofNat (224 + c / 4096)).toNat : Int), .int .u8 ((UInt8.ofNat (128 + c / 64 % 64)).toNat : Int), .int .u8 ((UInt8.ofNat (128 + c % 64)).toNat : Int)] rfl rfl ?c1 ?c2 ?c3 ?c4 ?c5 ?_)
  case c1 =>
    intro j u hj
    match j, hj with
    | 0, hj => simp at hj; subst hj; first | (simp; done) | (simp; omega) | (simp [Addr.add]; done) | (simp [Addr.add]; omega)
    | 1, hj => simp at hj; subst hj; first | (simp; done) | (simp; omega) | (simp [Addr.add]; done) | (simp [Addr.add]; omega)
    | 2, hj => simp at hj; subst hj; first | (simp; done) | (simp; omega) | (simp [Addr.add]; done) | (simp [Addr.add]; omega)
    | j + 3, hj => simp at hj
  case c2 => first | rfl | exact ⟨rfl, rfl⟩ | exact ⟨rfl, rfl, rfl⟩ | exact ⟨rfl, rfl, rfl, rfl⟩ | (intro u hu; simp at hu; rcases hu with rfl | rfl | rfl <;> rfl)
  case c3 => unfold maxLen; omega
  case c4 => omega
  case c5 => first | omega | (simp; omega)
  intro v' w2 hown' hgrow _
  have hbb : Below base w w2 := ((Below.refl _ _).alloc hbase _).grown hgrow (by simp; omega) (fun j hj => (hown.lt j hj).1)
  clear hgrow hown
  go_wp2
  go_ret
  exact ⟨_, rfl, hown', hbb⟩

set_option maxRecDepth 100000 in
theorem put_4 (v : Value) (n base c : Nat) (xs : List Value) (w : World) (hown : w.ownsRow base 5 1 v n xs) (hn : n ≤ 8000000) (hbase : base ≤ w.heap.size) (h0 : ¬ (1114112 : Int) ≤ c) (h1 : ¬ (c : Int) < 128) (h2 : ¬ (c : Int) < 2048) (h3 : ¬ (c : Int) < 65536) :
    Calls Tryd.prog 32 #[v, .int .i64 c] w fun e w' => ∃ v', e = .returned v' ∧ w'.ownsRow base 5 1 v' (n + (oneB c).length) (xs ++ bc (oneB c)) ∧ Below base w w' := by
  obtain ⟨i0, hi, hz0, hz1, hz2⟩ := info_parts info5
  have e : oneB c = [UInt8.ofNat (240 + c / 262144), UInt8.ofNat (128 + c / 4096 % 64), UInt8.ofNat (128 + c / 64 % 64), UInt8.ofNat (128 + c % 64)] := by unfold oneB; rw [if_neg (by omega), if_neg (by omega), if_neg (by omega), if_neg (by omega)]
  rw [e]
  clear e
  go_enter Tryd.func32, Tryd.ntmps32
  go_wp2_with (at_builtin; refine wpList_append_own _ rfl _ _ 70 rfl base 5 i0 (.int .u8 0) 1 1 Tryd.underlying70 hi hz0 hz1 hz2 rfl (by decide) _ _ _ rfl (hown.alloc _) ⟨w.heap.size, 0, none⟩ 4 4 [.int .u8 ((UInt8.ofNat (240 + c / 262144)).toNat : Int), .int .u8 ((UInt8.ofNat (128 + c / 4096 % 64)).toNat : Int), .int .u8 ((UInt8.ofNat (128 + c / 64 % 64)).toNat : Int), .int .u8 ((UInt8.ofNat (128 + c % 64)).toNat : Int)] rfl rfl ?c1 ?c2 ?c3 ?c4 ?c5 ?_)
  case c1 =>
    intro j u hj
    match j, hj with
    | 0, hj => simp at hj; subst hj; first | (simp; done) | (simp; omega) | (simp [Addr.add]; done) | (simp [Addr.add]; omega)
    | 1, hj => simp at hj; subst hj; first | (simp; done) | (simp; omega) | (simp [Addr.add]; done) | (simp [Addr.add]; omega)
    | 2, hj => simp at hj; subst hj; first | (simp; done) | (simp; omega) | (simp [Addr.add]; done) | (simp [Addr.add]; omega)
    | 3, hj => simp at hj; subst hj; first | (simp; done) | (simp; omega) | (simp [Addr.add]; done) | (simp [Addr.add]; omega)
    | j + 4, hj => simp at hj
  case c2 => first | rfl | exact ⟨rfl, rfl⟩ | exact ⟨rfl, rfl, rfl⟩ | exact ⟨rfl, rfl, rfl, rfl⟩ | (intro u hu; simp at hu; rcases hu with rfl | rfl | rfl | rfl <;> rfl)
  case c3 => unfold maxLen; omega
  case c4 => omega
  case c5 => first | omega | (simp; omega)
  intro v' w2 hown' hgrow _
  have hbb : Below base w w2 := ((Below.refl _ _).alloc hbase _).grown hgrow (by simp; omega) (fun j hj => (hown.lt j hj).1)
  clear hgrow hown
  go_wp2
  go_ret
  exact ⟨_, rfl, hown', hbb⟩

theorem put_any (v : Value) (n base c : Nat) (xs : List Value) (w : World) (hown : w.ownsRow base 5 1 v n xs) (hn : n ≤ 8000000) (hbase : base ≤ w.heap.size) :
    Calls Tryd.prog 32 #[v, .int .i64 c] w fun e w' => ∃ v', e = .returned v' ∧ w'.ownsRow base 5 1 v' (n + (oneB c).length) (xs ++ bc (oneB c)) ∧ Below base w w' := by
  by_cases h0 : (1114112 : Int) ≤ c
  · exact put_0 v n base c xs w hown hn hbase h0
  by_cases h1 : (c : Int) < 128
  · exact put_1 v n base c xs w hown hn hbase h0 h1
  by_cases h2 : (c : Int) < 2048
  · exact put_2 v n base c xs w hown hn hbase h0 h1 h2
  by_cases h3 : (c : Int) < 65536
  · exact put_3 v n base c xs w hown hn hbase h0 h1 h2 h3
  exact put_4 v n base c xs w hown hn hbase h0 h1 h2 h3
end Go.Proofs.YtmpnblibbcocpaaDoor
