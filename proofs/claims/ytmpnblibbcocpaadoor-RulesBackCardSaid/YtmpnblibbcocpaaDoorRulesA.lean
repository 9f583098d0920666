
/- The program's reader of rules: its memory, the next sign, blanks, the signs that part things. Conditions stand at each theorem. -/
import Derived.Test.YtmpnblibbcocpaaDoorRulesM
import Derived.Test.YtmpnblibbcocpaaDoorTextG
import Derived.Test.YtmpnblibbcocpaaDoorTextF
import Derived.Deep.QuietTactic
namespace Go.Proofs.YtmpnblibbcocpaaDoor
open Go.ChangeShapes Go.WideShapes Go.ChangeAt Go.RowKit Go.Lib
set_option linter.unusedVariables false

/-- all blocks that were there but one are as they were -/
structure But (b : Nat) (w w' : World) : Prop where
  os : w'.os = w.os
  tape : w'.tape = w.tape
  output : w'.output = w.output
  size : w.heap.size ≤ w'.heap.size
  block : ∀ k, k < w.heap.size → k ≠ b → w'.heap[k]? = w.heap[k]?
theorem But.refl (b : Nat) (w : World) : But b w w := ⟨rfl, rfl, rfl, Nat.le_refl _, fun _ _ _ => rfl⟩
theorem But.of {b : Nat} {w w' : World} (h : Below w.heap.size w w') : But b w w' := ⟨h.os, h.tape, h.output, h.size, fun k hk _ => h.block k hk⟩
theorem But.trans {b : Nat} {a c d : World} (h : But b a c) (k : But b c d) : But b a d :=
  ⟨k.os.trans h.os, k.tape.trans h.tape, k.output.trans h.output, Nat.le_trans h.size k.size, fun j hj hn => (k.block j (Nat.lt_of_lt_of_le hj h.size) hn).trans (h.block j hj hn)⟩
theorem But.cell {b : Nat} {w w' : World} (h : But b w w') {p : Addr} (hp : p.block < w.heap.size) (hn : p.block ≠ b) : w'.cell? p = w.cell? p := World.cell?_of_block (w := w) (h.block p.block hp hn)
theorem But.frozen {b : Nat} {w w' : World} (h : But b w w') {p : Addr} (hp : p.block < w.heap.size) (hn : p.block ≠ b) : w'.frozen? p = w.frozen? p := World.frozen?_of_block (w := w) (h.block p.block hp hn)
theorem But.set (b o : Nat) (w : World) (v : Value) : But b w (w.setCell ⟨b, o, none⟩ v) :=
  have h := (Below.refl 0 w).setCell (p := ⟨b, o, none⟩) (Nat.zero_le _) v
  ⟨h.os, h.tape, h.output, h.size, fun k _ hn => Below.heap_setCell w ⟨b, o, none⟩ v k hn⟩
theorem But.below {b B : Nat} {w w' : World} (h : But b w w') (hB : B ≤ b) (hw : B ≤ w.heap.size) : Below B w w' :=
  ⟨h.os, h.tape, h.output, h.size, fun k hk => h.block k (Nat.lt_of_lt_of_le hk hw) (by omega)⟩

/-- the reader's block -/
structure RS (b : Nat) (lv av : Value) (i : Nat) (w : World) : Prop where
  c0 : w.cell? ⟨b, 0, none⟩ = some lv
  c1 : w.cell? ⟨b, 1, none⟩ = some av
  c2 : w.cell? ⟨b, 2, none⟩ = some (.int .i64 (i : Nat))
  f1 : w.frozen? ⟨b, 1, none⟩ = false
  f2 : w.frozen? ⟨b, 2, none⟩ = false
  lt : b < w.heap.size
theorem RS.below {b : Nat} {lv av : Value} {i : Nat} {w w' : World} (h : RS b lv av i w) (hb : Below w.heap.size w w') : RS b lv av i w' where
  c0 := (hb.cell (p := ⟨b, 0, none⟩) h.lt).trans h.c0
  c1 := (hb.cell (p := ⟨b, 1, none⟩) h.lt).trans h.c1
  c2 := (hb.cell (p := ⟨b, 2, none⟩) h.lt).trans h.c2
  f1 := (hb.frozen (p := ⟨b, 1, none⟩) h.lt).trans h.f1
  f2 := (hb.frozen (p := ⟨b, 2, none⟩) h.lt).trans h.f2
  lt := Nat.lt_of_lt_of_le h.lt hb.size
theorem RS.set {b : Nat} {lv av : Value} {i : Nat} {w : World} (h : RS b lv av i w) (j : Nat) : RS b lv av j (w.setCell ⟨b, 2, none⟩ (.int .i64 (j : Nat))) where
  c0 := by rw [World.cell?_setCell_other _ _ _ _ (by simp)]; exact h.c0
  c1 := by rw [World.cell?_setCell_other _ _ _ _ (by simp)]; exact h.c1
  c2 := World.cell?_setCell_same _ _ _ h.c2
  f1 := by rw [World.frozen?_setCell]; exact h.f1
  f2 := by rw [World.frozen?_setCell]; exact h.f2
  lt := Nat.lt_of_lt_of_le h.lt (But.set b 2 w _).size
/-- the signs that it reads -/
structure LS (b : Nat) (lv : Value) (L : List Nat) (w : World) : Prop where
  ex : ∃ A c, lv = .slice A L.length c ∧ L.length ≤ c ∧ (0 < L.length → ∃ g, A = some ⟨g, 0, none⟩ ∧ g < b ∧ ∀ j, j < L.length → w.cell? ⟨g, j, none⟩ = some (.int .i64 (L.getD j 0 : Nat)))
theorem LS.of {b : Nat} {lv : Value} {L : List Nat} {w w' : World} (h : LS b lv L w) (hk : ∀ k, k < b → w'.heap[k]? = w.heap[k]?) : LS b lv L w' := by
  obtain ⟨A, c, e, hc, hr⟩ := h.ex
  refine ⟨A, c, e, hc, fun h0 => ?_⟩
  obtain ⟨g, e2, hlt, hcell⟩ := hr h0
  exact ⟨g, e2, hlt, fun j hj => (World.cell?_of_block (w := w) (a := ⟨g, j, none⟩) (hk g hlt)).trans (hcell j hj)⟩
/-- the reader, at a place -/
structure St (b : Nat) (lv av : Value) (L : List Nat) (i : Nat) (w : World) : Prop where
  rs : RS b lv av i w
  ls : LS b lv L w
  le : i ≤ L.length
  big : L.length ≤ 1000000
theorem St.upto {b B : Nat} {lv av : Value} {L : List Nat} {i : Nat} {w w' : World} (h : St b lv av L i w) (hb : Below B w w') (hB : b < B) : St b lv av L i w' where
  rs := {
    c0 := (hb.cell (p := ⟨b, 0, none⟩) hB).trans h.rs.c0
    c1 := (hb.cell (p := ⟨b, 1, none⟩) hB).trans h.rs.c1
    c2 := (hb.cell (p := ⟨b, 2, none⟩) hB).trans h.rs.c2
    f1 := (hb.frozen (p := ⟨b, 1, none⟩) hB).trans h.rs.f1
    f2 := (hb.frozen (p := ⟨b, 2, none⟩) hB).trans h.rs.f2
    lt := Nat.lt_of_lt_of_le h.rs.lt hb.size }
  ls := h.ls.of fun k hk => hb.block k (by omega)
  le := h.le
  big := h.big
theorem St.below {b : Nat} {lv av : Value} {L : List Nat} {i : Nat} {w w' : World} (h : St b lv av L i w) (hb : Below w.heap.size w w') : St b lv av L i w' := h.upto hb h.rs.lt
theorem St.set {b : Nat} {lv av : Value} {L : List Nat} {i : Nat} {w : World} (h : St b lv av L i w) {j : Nat} (hj : j ≤ L.length) : St b lv av L j (w.setCell ⟨b, 2, none⟩ (.int .i64 (j : Nat))) :=
  ⟨h.rs.set j, h.ls.of fun k hk => (But.set b 2 w _).block k (Nat.lt_trans hk h.rs.lt) (by omega), hj, h.big⟩
theorem But.onB {b : Nat} {w a c : World} (h : But b w a) (hb : Below w.heap.size a c) : But b w c :=
  ⟨hb.os.trans h.os, hb.tape.trans h.tape, hb.output.trans h.output, Nat.le_trans h.size hb.size, fun k hk hn => (hb.block k hk).trans (h.block k hk hn)⟩
/-- where the reader stands, out of memory -/
def ixOf (b : Nat) (w : World) : Nat := match w.cell? ⟨b, 2, none⟩ with
  | some v => (RowKit.intOf v).toNat
  | none => 0
theorem RS.ix {b : Nat} {lv av : Value} {i : Nat} {w : World} (h : RS b lv av i w) : ixOf b w = i := by
  unfold ixOf
  rw [h.c2]
  simp [RowKit.intOf]

/-- the next sign of what is left -/
def hd : List Nat → Int
  | [] => -1
  | c :: _ => (c : Int)
theorem hd_end {L : List Nat} {i : Nat} (h : L.length ≤ i) : hd (L.drop i) = -1 := by rw [List.drop_eq_nil_of_le h]; rfl
theorem hd_at {L : List Nat} {i : Nat} (h : i < L.length) : hd (L.drop i) = (L.getD i 0 : Nat) := by
  rw [List.drop_eq_getElem_cons h]
  simp [hd, List.getD, h]
theorem drop_at {L : List Nat} {i : Nat} (h : i < L.length) : L.drop i = L.getD i 0 :: L.drop (i + 1) := by
  rw [List.drop_eq_getElem_cons h]
  simp [List.getD, h]
abbrev pt (b : Nat) : Value := .pointer (some ⟨b, 0, none⟩)

set_option maxRecDepth 100000 in
theorem sign_rd {b : Nat} {lv av : Value} {L : List Nat} {i : Nat} {w : World} (h : St b lv av L i w) :
    Calls Tryd.prog 18 #[pt b] w fun e w' => e = .returned (.int .i64 (hd (L.drop i))) ∧ Below w.heap.size w w' := by
  obtain ⟨A, c, rfl, hc, hr⟩ := h.ls.ex
  have c0 := h.rs.c0
  have c2 := h.rs.c2
  have hle := h.le
  have hbig := h.big
  by_cases hi : i < L.length
  · obtain ⟨g, rfl, _, hcell⟩ := hr (by omega)
    have hg := hcell i hi
    rw [hd_at hi]
    have e1 : ((i : Int) == (L.length : Int)) = false := by simp; omega
    clear hr hcell h
    generalize L.getD i 0 = x at *
    go_enter Tryd.func18, Tryd.ntmps18
    go_wp2
    go_quiet (fail)
    go_wp2
    go_quiet (fail)
    go_wp2
    go_ret
    exact ⟨rfl, btr (below_drewN _ _) (below_drewN _ _)⟩
  · have hil : i = L.length := by omega
    subst hil
    rw [hd_end (Nat.le_refl _)]
    clear hr h
    go_enter Tryd.func18, Tryd.ntmps18
    go_wp2
    go_quiet (fail)
    go_wp2
    go_ret
    exact ⟨rfl, below_drewN _ _⟩

def spZ (c : Int) : Bool := c == 32 || c == 10 || c == 38 || c == 60 || c == 61 || c == 47 || c == 92
theorem spZ_nat (c : Nat) : spZ (c : Int) = (spc c || c == 92) := by
  unfold spZ spc
  rw [Bool.eq_iff_iff]
  simp only [Bool.or_eq_true, beq_iff_eq]
  omega
theorem special_0 (c : Int)  (h0 : (c == 32) = true) (w : World) : Calls Tryd.prog 37 #[.int .i64 c] w fun e w' => e = .returned (.bool true) ∧ w = w' := by
  go_enter Tryd.func37, Tryd.ntmps37
  go_wp2
  go_ret
  exact ⟨rfl, rfl⟩
theorem special_1 (c : Int) (h0 : (c == 32) = false) (h1 : (c == 10) = true) (w : World) : Calls Tryd.prog 37 #[.int .i64 c] w fun e w' => e = .returned (.bool true) ∧ w = w' := by
  go_enter Tryd.func37, Tryd.ntmps37
  go_wp2
  go_ret
  exact ⟨rfl, rfl⟩
theorem special_2 (c : Int) (h0 : (c == 32) = false) (h1 : (c == 10) = false) (h2 : (c == 38) = true) (w : World) : Calls Tryd.prog 37 #[.int .i64 c] w fun e w' => e = .returned (.bool true) ∧ w = w' := by
  go_enter Tryd.func37, Tryd.ntmps37
  go_wp2
  go_ret
  exact ⟨rfl, rfl⟩
theorem special_3 (c : Int) (h0 : (c == 32) = false) (h1 : (c == 10) = false) (h2 : (c == 38) = false) (h3 : (c == 60) = true) (w : World) : Calls Tryd.prog 37 #[.int .i64 c] w fun e w' => e = .returned (.bool true) ∧ w = w' := by
  go_enter Tryd.func37, Tryd.ntmps37
  go_wp2
  go_ret
  exact ⟨rfl, rfl⟩
theorem special_4 (c : Int) (h0 : (c == 32) = false) (h1 : (c == 10) = false) (h2 : (c == 38) = false) (h3 : (c == 60) = false) (h4 : (c == 61) = true) (w : World) : Calls Tryd.prog 37 #[.int .i64 c] w fun e w' => e = .returned (.bool true) ∧ w = w' := by
  go_enter Tryd.func37, Tryd.ntmps37
  go_wp2
  go_ret
  exact ⟨rfl, rfl⟩
theorem special_5 (c : Int) (h0 : (c == 32) = false) (h1 : (c == 10) = false) (h2 : (c == 38) = false) (h3 : (c == 60) = false) (h4 : (c == 61) = false) (h5 : (c == 47) = true) (w : World) : Calls Tryd.prog 37 #[.int .i64 c] w fun e w' => e = .returned (.bool true) ∧ w = w' := by
  go_enter Tryd.func37, Tryd.ntmps37
  go_wp2
  go_ret
  exact ⟨rfl, rfl⟩
theorem special_6 (c : Int) (h0 : (c == 32) = false) (h1 : (c == 10) = false) (h2 : (c == 38) = false) (h3 : (c == 60) = false) (h4 : (c == 61) = false) (h5 : (c == 47) = false) (h6 : (c == 92) = true) (w : World) : Calls Tryd.prog 37 #[.int .i64 c] w fun e w' => e = .returned (.bool true) ∧ w = w' := by
  go_enter Tryd.func37, Tryd.ntmps37
  go_wp2
  go_ret
  exact ⟨rfl, rfl⟩
theorem special_7 (c : Int) (h0 : (c == 32) = false) (h1 : (c == 10) = false) (h2 : (c == 38) = false) (h3 : (c == 60) = false) (h4 : (c == 61) = false) (h5 : (c == 47) = false) (h6 : (c == 92) = false) (w : World) : Calls Tryd.prog 37 #[.int .i64 c] w fun e w' => e = .returned (.bool false) ∧ w = w' := by
  go_enter Tryd.func37, Tryd.ntmps37
  go_wp2
  go_ret
  exact ⟨rfl, rfl⟩
theorem special_rd (c : Int) (w : World) : Calls Tryd.prog 37 #[.int .i64 c] w fun e w' => e = .returned (.bool (spZ c)) ∧ w = w' := by
  by_cases h0 : (c == 32) = true
  · have e : spZ c = true := by unfold spZ; simp [h0]
    rw [e]
    exact special_0 c  h0 w
  replace h0 : (c == 32) = false := by simpa using h0
  by_cases h1 : (c == 10) = true
  · have e : spZ c = true := by unfold spZ; simp [h1]
    rw [e]
    exact special_1 c h0 h1 w
  replace h1 : (c == 10) = false := by simpa using h1
  by_cases h2 : (c == 38) = true
  · have e : spZ c = true := by unfold spZ; simp [h2]
    rw [e]
    exact special_2 c h0 h1 h2 w
  replace h2 : (c == 38) = false := by simpa using h2
  by_cases h3 : (c == 60) = true
  · have e : spZ c = true := by unfold spZ; simp [h3]
    rw [e]
    exact special_3 c h0 h1 h2 h3 w
  replace h3 : (c == 60) = false := by simpa using h3
  by_cases h4 : (c == 61) = true
  · have e : spZ c = true := by unfold spZ; simp [h4]
    rw [e]
    exact special_4 c h0 h1 h2 h3 h4 w
  replace h4 : (c == 61) = false := by simpa using h4
  by_cases h5 : (c == 47) = true
  · have e : spZ c = true := by unfold spZ; simp [h5]
    rw [e]
    exact special_5 c h0 h1 h2 h3 h4 h5 w
  replace h5 : (c == 47) = false := by simpa using h5
  by_cases h6 : (c == 92) = true
  · have e : spZ c = true := by unfold spZ; simp [h6]
    rw [e]
    exact special_6 c h0 h1 h2 h3 h4 h5 h6 w
  replace h6 : (c == 92) = false := by simpa using h6
  have e : spZ c = false := by unfold spZ; simp only [h0, h1, h2, h3, h4, h5, h6, Bool.or_false]
  rw [e]
  exact special_7 c h0 h1 h2 h3 h4 h5 h6 w
end Go.Proofs.YtmpnblibbcocpaaDoor
