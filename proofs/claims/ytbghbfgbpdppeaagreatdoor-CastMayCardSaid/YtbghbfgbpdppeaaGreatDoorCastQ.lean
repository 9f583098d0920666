
/- cast.To of any clean value to any kind ends, without an error where May says so; the document's Clean of any value. -/
import Derived.Test.YtbghbfgbpdppeaaGreatDoorCastK
import Derived.Test.YtbghbfgbpdppeaaGreatDoorCastM
import Derived.Test.YtbghbfgbpdppeaaGreatDoorCastO
import Derived.Test.YtbghbfgbpdppeaaGreatDoorCastP
import Derived.Test.YtbghbfgbpdppeaaGreatDoorCastG
namespace Go.Proofs.YtbghbfgbpdppeaaGreatDoor
open Go.ChangeShapes Go.WideShapes Go.ChangeAt Go.RowKit
set_option linter.unusedVariables false

def ck (k n : Int) (s : ByteArray) : Int := if okB k n s then k else 0
theorem clean_any (k n : Int) (s : ByteArray) (w : World) : Calls Tryz.prog 13 #[gv k n s] w fun e w' => ∃ m t, e = .returned (gv (ck k n s) m t) ∧ Below w.heap.size w w' := by
  cases h : okB k n s
  · have e : ck k n s = 0 := by unfold ck; rw [h]; rfl
    rw [e]
    exact (clean_no k n s w h).mono fun e w' ⟨he, hb⟩ => ⟨0, _, he, hb⟩
  · have e : ck k n s = k := by unfold ck; rw [h]; rfl
    rw [e]
    exact (clean_yes k n s w h).mono fun e w' ⟨he, hb⟩ => ⟨n, s, he, hb⟩

theorem empty_of {s : ByteArray} (h : s.toList.isEmpty = true) : s = { data := #[] } := by
  have h2 : s.toList = [] := by simpa using h
  rw [Lib.toList_data] at h2
  exact bytes_inj (a := s) (b := { data := #[] }) h2

def ToOk (j K : Nat) (w : World) (e : Ending) (w' : World) : Prop := ∃ a b c er, e = .returned (.tuple #[gv a b c, .int .i64 er]) ∧ (mayB j K = true → er = 0) ∧ Below w.heap.size w w'

theorem to_all (k n : Int) (s : ByteArray) (j K : Nat) (w : World) (hn : fits n = true) (hs : s.size ≤ 1000) (hK1 : 1 ≤ K) (hK3 : K ≤ 3) (hj : j ≤ 3) (hc : ck k n s = (j : Int)) (hT : TabsX w) :
    Calls Tryz.prog 8 #[gv k n s, .int .i64 K] w (ToOk j K w) := by
  cases h : okB k n s
  · exact (to_null k n K 0 s _ w (Lib.hid fun W => is_no k n s W h)).mono fun e w' ⟨he, hb⟩ => ⟨0, 0, _, 0, he, fun _ => rfl, hb⟩
  · have ek : k = (j : Int) := by rw [← hc]; unfold ck; rw [h]; rfl
    subst ek
    have a : j = 0 ∨ j = 1 ∨ j = 2 ∨ j = 3 := by omega
    have b : K = 1 ∨ K = 2 ∨ K = 3 := by omega
    rcases a with rfl | rfl | rfl | rfl
    · exact (to_null 0 n K n s s w (Lib.hid fun W => is_yes 0 n s W h)).mono fun e w' ⟨he, hb⟩ => ⟨0, n, s, 0, he, fun _ => rfl, hb⟩
    · rcases b with rfl | rfl | rfl
      · exact (to_same_1 n s w h).mono fun e w' ⟨he, hb⟩ => ⟨_, _, _, _, he, fun _ => rfl, hb⟩
      · exact (to_bool_int n s w h).mono fun e w' ⟨he, hb⟩ => ⟨_, _, _, _, he, fun _ => rfl, hb⟩
      · have hn2 : n = 0 ∨ n = 1 := by
          have h' : ((n == 0 || n == 1) && s.toList.isEmpty) = true := h
          simp at h'
          omega
        rcases hn2 with rfl | rfl
        · exact (to_b0_text s w h).mono fun e w' ⟨he, hb⟩ => ⟨_, _, _, _, he, fun _ => rfl, hb⟩
        · exact (to_b1_text s w h).mono fun e w' ⟨he, hb⟩ => ⟨_, _, _, _, he, fun _ => rfl, hb⟩
    · obtain rfl := empty_of (show s.toList.isEmpty = true from h)
      rcases b with rfl | rfl | rfl
      · exact (to_int_bool n w).mono fun e w' ⟨he, hb⟩ => ⟨_, _, _, _, he, fun _ => rfl, hb⟩
      · exact (to_same_2 n _ w h).mono fun e w' ⟨he, hb⟩ => ⟨_, _, _, _, he, fun _ => rfl, hb⟩
      · exact (to_int_text n w hn hT).mono fun e w' ⟨he, hb⟩ => ⟨_, _, _, _, he, fun _ => rfl, hb⟩
    · have hn0 : n = 0 := by
        have h' : ((3 : Int) == 3 && n == 0) = true := h
        simpa using h'
      subst hn0
      rcases b with rfl | rfl | rfl
      · exact (to_text_bool s w hs hT).mono fun e w' ⟨a, b, er, he, hb⟩ => ⟨_, _, _, _, he, fun h => by simp [mayB] at h, hb⟩
      · by_cases he0 : numE (trimB (bl s)) = 0
        · exact (to_text_int s w hs hT he0).mono fun e w' ⟨he, hb⟩ => ⟨_, _, _, _, he, fun h => by simp [mayB] at h, hb⟩
        · exact (to_text_no s w hs hT (by simpa using he0)).mono fun e w' ⟨he, hb⟩ => ⟨_, _, _, _, he, fun h => by simp [mayB] at h, hb⟩
      · exact (to_same_3 0 s w h).mono fun e w' ⟨he, hb⟩ => ⟨_, _, _, _, he, fun _ => rfl, hb⟩

theorem and3 (x : Int) : ∃ k : Nat, k ≤ 3 ∧ bits .and .i64 x 3 = (k : Int) := by
  refine ⟨w2n x &&& 3, Nat.and_le_right, ?_⟩
  rw [and_n]
  have h7 : w2n 3 = 3 := by decide +kernel
  rw [h7]
  have := Nat.and_le_right (n := w2n x) (m := 3)
  generalize w2n x &&& 3 = k at *
  unfold wrap64
  omega
theorem andf (x : Int) : ∃ k : Nat, k ≤ 65535 ∧ bits .and .i64 x 65535 = (k : Int) := by
  refine ⟨w2n x &&& 65535, Nat.and_le_right, ?_⟩
  rw [and_n]
  have h7 : w2n 65535 = 65535 := by decide +kernel
  rw [h7]
  have := Nat.and_le_right (n := w2n x) (m := 65535)
  generalize w2n x &&& 65535 = k at *
  unfold wrap64
  omega
end Go.Proofs.YtbghbfgbpdppeaaGreatDoor
