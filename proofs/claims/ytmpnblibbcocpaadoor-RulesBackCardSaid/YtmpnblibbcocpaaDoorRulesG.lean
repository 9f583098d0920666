
/- The program's Parse of rules: its two loops. Conditions stand at each theorem. -/
import Derived.Test.YtmpnblibbcocpaaDoorRulesF
import Derived.Test.YtmpnblibbcocpaaDoorTextE
import Derived.Test.YtmpnblibbcocpaaDoorTextW
import Derived.Test.YtmpnblibbcocpaaDoorRulesN
namespace Go.Proofs.YtmpnblibbcocpaaDoor
open Go.ChangeShapes Go.WideShapes Go.ChangeAt Go.RowKit Go.Lib
set_option linter.unusedVariables false

theorem LS.of_own {w w' : World} {base b : Nat} {v : Value} {L : List Nat} (h : Own w base v L) (hb : Below w.heap.size w w') (hB : w.heap.size ≤ b) : LS b v L w' := by
  rcases h with ⟨rfl, rfl⟩ | ⟨g, cap, cur, rfl, h1, hg, hn, hc, hs, ht⟩
  · exact ⟨none, 0, rfl, Nat.le_refl _, fun h => by simp at h⟩
  · have hlt := (Array.getElem?_eq_some_iff.1 hg).1
    refine ⟨_, cap, rfl, hn, fun _ => ⟨g, rfl, by omega, fun j hj => ?_⟩⟩
    rw [hb.cell (p := ⟨g, j, none⟩) hlt, cell_of_row w g j cur 3 (0, 0) hg, ← Array.getElem?_toList]
    have e1 : (cur.toList.take L.length)[j]? = (cl L)[j]? := by rw [ht]
    rw [List.getElem?_take_of_lt hj] at e1
    rw [e1]
    simp [cl, List.getD, hj]
/-- places in bytes -/
def posn (L : List Nat) (k : Nat) : Nat := (jn (L.take k)).length
def posns (L : List Nat) (k : Nat) : List Nat := (List.range k).map (posn L)
theorem posns_succ (L : List Nat) (k : Nat) : posns L (k + 1) = posns L k ++ [posn L k] := by
  unfold posns
  rw [List.range_succ, List.map_append]
  rfl
theorem posns_len (L : List Nat) (k : Nat) : (posns L k).length = k := by simp [posns]
theorem posn_succ {L : List Nat} {k : Nat} (h : k < L.length) : posn L (k + 1) = posn L k + (oneB (L.getD k 0)).length := by
  unfold posn
  rw [jn_take h, List.length_append]
theorem posn_le (L : List Nat) (k : Nat) : posn L k ≤ 4 * L.length := by
  unfold posn
  have := jn_len (L.take k)
  have h2 : (L.take k).length ≤ L.length := by simp; omega
  omega
/-- the reader whose places stand in a row of its own -/
structure SA (b : Nat) (lv : Value) (L : List Nat) (i n : Nat) (w : World) : Prop where
  ex : ∃ A c, St b lv (.slice A n c) L i w ∧ w.ownsRow (b + 1) 3 1 (.slice A n c) n (cl (posns L n))

theorem RS.setAv {b : Nat} {lv av : Value} {i : Nat} {w : World} (h : RS b lv av i w) (av' : Value) : RS b lv av' i (w.setCell ⟨b, 1, none⟩ av') where
  c0 := by rw [World.cell?_setCell_other _ _ _ _ (by simp)]; exact h.c0
  c1 := World.cell?_setCell_same _ _ _ h.c1
  c2 := by rw [World.cell?_setCell_other _ _ _ _ (by simp)]; exact h.c2
  f1 := by rw [World.frozen?_setCell]; exact h.f1
  f2 := by rw [World.frozen?_setCell]; exact h.f2
  lt := Nat.lt_of_lt_of_le h.lt (But.set b 1 w _).size
theorem St.setAv {b : Nat} {lv av : Value} {L : List Nat} {i : Nat} {w : World} (h : St b lv av L i w) (av' : Value) : St b lv av' L i (w.setCell ⟨b, 1, none⟩ av') :=
  ⟨h.rs.setAv av', h.ls.of fun k hk => (But.set b 1 w _).block k (Nat.lt_trans hk h.rs.lt) (by omega), h.le, h.big⟩
theorem one_new (w : World) (x : Value) (t : TypeId) : ∀ j u, [x][j]? = some u → (w.alloc (.cells #[x] t)).cell? ((⟨w.heap.size, 0, none⟩ : Addr).add j) = some u := by
  intro j u hj
  match j, hj with
  | 0, hj => simp at hj; subst hj; simp [Addr.add]
theorem one_int (z : Int) : ∀ u ∈ [Value.int .i64 z], u.oneCell' = true := by
  intro u hu
  simp at hu
  subst hu
  rfl
theorem row_slice {w : World} {B e n : Nat} {v : Value} {l : List Nat} (h : w.ownsRow B e 1 v n (cl l)) : ∃ A c, v = .slice A n c := by
  rcases h.2 with ⟨rfl, rfl⟩ | ⟨g, cap, cur, rfl, h1, hg, hr⟩
  · exact ⟨none, 0, rfl⟩
  · exact ⟨_, _, rfl⟩
theorem put_lit (x : Nat) (w : World) (p : Addr) (u : Value) : Calls Tryd.prog 16 #[.slice (some ⟨w.heap.size, 0, none⟩) 1 1] ((w.setCell p u).alloc (Obj.cells #[.int .i64 (x : Nat)] 3)) fun e w' => e = .returned (.string ⟨(jn [x]).toArray⟩) ∧ Below ((w.setCell p u).alloc (Obj.cells #[.int .i64 (x : Nat)] 3)).heap.size ((w.setCell p u).alloc (Obj.cells #[.int .i64 (x : Nat)] 3)) w' := by
  have h := Rd.lit (w.setCell p u) [(x : Int)] 1 rfl
  rw [size_set] at h
  exact Put_any _ [x] _ h (by simp)
/-- rules and the slices that hold them, as cells -/
def cellsR (acc : List (Rl × Value × Value)) : List Value := acc.flatMap fun p => [.int .i64 (p.1.rel : Nat), p.2.1, p.2.2]
theorem cellsR_len (acc : List (Rl × Value × Value)) : (cellsR acc).length = acc.length * 3 := by
  induction acc with
  | nil => rfl
  | cons p l ih =>
    unfold cellsR at *
    rw [List.flatMap_cons, List.length_append, ih]
    simp
    omega
theorem cellsR_snoc (acc : List (Rl × Value × Value)) (p : Rl × Value × Value) : cellsR (acc ++ [p]) = cellsR acc ++ [.int .i64 (p.1.rel : Nat), p.2.1, p.2.2] := by
  unfold cellsR
  rw [List.flatMap_append]
  simp
theorem cellsR_get : ∀ (acc : List (Rl × Value × Value)) (j : Nat) (p : Rl × Value × Value), acc[j]? = some p → (cellsR acc)[j * 3]? = some (.int .i64 (p.1.rel : Nat)) ∧ (cellsR acc)[j * 3 + 1]? = some p.2.1 ∧ (cellsR acc)[j * 3 + 2]? = some p.2.2
  | [], j, p, h => by simp at h
  | q :: l, 0, p, h => by
    simp at h
    subst h
    exact ⟨rfl, rfl, rfl⟩
  | q :: l, j + 1, p, h => by
    obtain ⟨h0, h1, h2⟩ := cellsR_get l j p (by simpa using h)
    have e : cellsR (q :: l) = .int .i64 (q.1.rel : Nat) :: q.2.1 :: q.2.2 :: cellsR l := rfl
    rw [e, show (j + 1) * 3 = j * 3 + 1 + 1 + 1 by omega]
    exact ⟨h0, h1, h2⟩
theorem row_slice3 {w : World} {B e n : Nat} {v : Value} {xs : List Value} (h : w.ownsRow B e 3 v n xs) : ∃ A c, v = .slice A n c := by
  rcases h.2 with ⟨rfl, rfl⟩ | ⟨g, cap, cur, rfl, h1, hg, hr⟩
  · exact ⟨none, 0, rfl⟩
  · exact ⟨_, _, rfl⟩
theorem clipR_any (A : Option Addr) (n c : Nat) (w : World) (hn : n ≤ c) :
    Calls Tryd.prog 20 #[.slice A n c] w fun e w' => e = .returned (.slice A n n) ∧ w = w' := by
  go_enter Tryd.func20, Tryd.ntmps20
  go_wp2
  go_ret
  exact ⟨rfl, rfl⟩
/-- rules, each with its own sequences, as a list in memory of the call's own -/
structure RowR (w : World) (B : Nat) (v : Value) (acc : List (Rl × Value × Value)) : Prop where
  ex : ∃ A c, v = .slice A acc.length c ∧ acc.length ≤ c ∧ (0 < acc.length → ∃ g, A = some ⟨g, 0, none⟩ ∧ B ≤ g ∧ g < w.heap.size ∧ ∀ j p, acc[j]? = some p → w.cell? ⟨g, j * 3, none⟩ = some (.int .i64 (p.1.rel : Nat)) ∧ w.cell? ⟨g, j * 3 + 1, none⟩ = some p.2.1 ∧ w.cell? ⟨g, j * 3 + 2, none⟩ = some p.2.2)
  own : ∀ p ∈ acc, Own w B p.2.1 p.1.seq ∧ Own w B p.2.2 p.1.exp
theorem RowR.of_row {w : World} {B T : Nat} {A : Option Addr} {c : Nat} {acc : List (Rl × Value × Value)} (h : w.ownsRow B T 3 (.slice A acc.length c) acc.length (cellsR acc)) (ho : ∀ p ∈ acc, Own w B p.2.1 p.1.seq ∧ Own w B p.2.2 p.1.exp) : acc.length ≤ c ∧ RowR w B (.slice A acc.length acc.length) acc := by
  rcases h.2 with ⟨h1, h2⟩ | ⟨g, cap, cur, hv, h1, hg, hn, hc, hs, ht⟩
  · injection h1 with h1 h3 h4
    subst h1 h4
    exact ⟨by omega, ⟨none, acc.length, rfl, Nat.le_refl _, fun h0 => by omega⟩, ho⟩
  · injection hv with hv _ h4
    subst hv h4
    refine ⟨hn, ⟨_, _, rfl, Nat.le_refl _, fun _ => ⟨g, rfl, h1, (Array.getElem?_eq_some_iff.1 hg).1, fun j p hj => ?_⟩⟩, ho⟩
    obtain ⟨e0, e1, e2⟩ := cellsR_get acc j p hj
    have hjl : j < acc.length := (List.getElem?_eq_some_iff.1 hj).1
    have q : ∀ t u, t < acc.length * 3 → (cellsR acc)[t]? = some u → w.cell? ⟨g, t, none⟩ = some u := fun t u ht2 hu => by
      rw [cell_of_row w g t cur T (0, 0) hg, ← Array.getElem?_toList]
      have e : (cur.toList.take (acc.length * 3))[t]? = (cellsR acc)[t]? := by rw [ht]
      rw [List.getElem?_take_of_lt ht2] at e
      rw [e, hu]
    exact ⟨q _ _ (by omega) e0, q _ _ (by omega) e1, q _ _ (by omega) e2⟩
theorem RowR.base {w : World} {B B' : Nat} {v : Value} {acc : List (Rl × Value × Value)} (h : RowR w B v acc) (hB : B' ≤ B) : RowR w B' v acc := by
  obtain ⟨A, c, e, hc, hr⟩ := h.ex
  refine ⟨⟨A, c, e, hc, fun h0 => ?_⟩, fun p hp => ⟨(h.own p hp).1.base hB, (h.own p hp).2.base hB⟩⟩
  obtain ⟨g, e2, h1, h2⟩ := hr h0
  exact ⟨g, e2, Nat.le_trans hB h1, h2⟩
/-- what Parse answers -/
def PAns (w' : World) (B total : Nat) (R : RulesEnd) (e : Ending) : Prop := match R with
  | .ok l => ∃ A c acc, e = .returned (.tuple #[.slice A l.length c, .int .i64 0, .int .i64 0]) ∧ acc.map (·.1) = l ∧ RowR w' B (.slice A l.length c) acc
  | .many => e = .returned (.tuple #[.slice none 0 0, .int .i64 0, .int .i64 65])
  | .wrong M => e = .returned (.tuple #[.slice none 0 0, .int .i64 (total - (jn M).length : Nat), .int .i64 10])
theorem retp3 {v : Value} {a c : Int} (h : a = c) : Ending.returned (.tuple #[v, .int .i64 a, .int .i64 10]) = .returned (.tuple #[v, .int .i64 c, .int .i64 10]) := by rw [h]
theorem jn_app (l m : List Nat) : jn (l ++ m) = jn l ++ jn m := by unfold jn; rw [List.map_append, List.flatten_append]
theorem posn_drop {L M : List Nat} {k : Nat} (h : L.drop k = M) : posn L k = (jn L).length - (jn M).length := by
  have e : jn L = jn (L.take k) ++ jn (L.drop k) := by rw [← jn_app, List.take_append_drop]
  rw [e, List.length_append, h]
  unfold posn
  omega
theorem posns_get {L : List Nat} {n k : Nat} (h : k < n) : (cl (posns L n))[k]? = some (.int .i64 (posn L k : Nat)) := by
  simp [cl, posns, h]
theorem row_at {w : World} {B T n c : Nat} {A : Option Addr} {xs : List Value} (h : w.ownsRow B T 1 (.slice A n c) n xs) {k : Nat} {u : Value} (hk : k < n) (hu : xs[k]? = some u) : ∃ g, A = some ⟨g, 0, none⟩ ∧ w.cell? ⟨g, k, none⟩ = some u := by
  rcases h.2 with ⟨h1, h2⟩ | ⟨g, cap, cur, hv, h1, hg, hn, hc, hs, ht⟩
  · omega
  · injection hv with hv _ h4
    subst hv h4
    refine ⟨g, rfl, ?_⟩
    rw [cell_of_row w g k cur T (0, 0) hg, ← Array.getElem?_toList]
    have e : (cur.toList.take (n * 1))[k]? = xs[k]? := by rw [ht]
    rw [List.getElem?_take_of_lt (by omega)] at e
    rw [e, hu]
theorem one_rule (w : World) (a b c : Value) (t : TypeId) : ∀ j u, [a, b, c][j]? = some u → (w.alloc (.cells #[a, b, c] t)).cell? ((⟨w.heap.size, 0, none⟩ : Addr).add j) = some u := by
  intro j u hj
  match j, hj with
  | 0, hj => simp at hj; subst hj; simp [Addr.add]
  | 1, hj => simp at hj; subst hj; simp [Addr.add]
  | 2, hj => simp at hj; subst hj; simp [Addr.add]
theorem cells_rule (z : Int) (A1 A2 : Option Addr) (n1 c1 n2 c2 : Nat) : ∀ u ∈ [Value.int .i64 z, .slice A1 n1 c1, .slice A2 n2 c2], u.oneCell' = true := by
  intro u hu
  simp at hu
  rcases hu with rfl | rfl | rfl <;> rfl
theorem one_rule2 (w : World) (o : Obj) (a b c : Value) (t : TypeId) : ∀ j u, [a, b, c][j]? = some u → ((w.alloc o).alloc (.cells #[a, b, c] t)).cell? ((⟨w.heap.size + 1, 0, none⟩ : Addr).add j) = some u := by
  have h := one_rule (w.alloc o) a b c t
  rw [World.size_alloc] at h
  exact h
theorem drop_lt_of {L M : List Nat} {k : Nat} (h : L.drop k = M) (hk : k ≤ L.length) : k < L.length + 1 := by omega
theorem Code.world {P : Program} {c : Code} {Q : Exit → Act → World → Prop} {a : Act} {w : World} (h : ∀ W, W = w → c.wp P Q a W) : c.wp P Q a w := h w rfl
theorem jn_one_size (x : Nat) : (⟨(jn [x]).toArray⟩ : ByteArray).size = (oneB x).length := by
  show (jn [x]).toArray.size = _
  simp [jn]

set_option maxHeartbeats 2000000 in
set_option maxRecDepth 100000 in
theorem parse_rd (s : ByteArray) (w : World) (hs : s.size ≤ 100000) (hT : TabsU w) :
    Calls Tryd.prog 7 #[.string s] w fun e w' => PAns w' w.heap.size (bl s).length (parseP (sgs (bl s)).length [] (blankP (sgs (bl s)))) e ∧ Below w.heap.size w w' := by
  obtain ⟨j0, hi', hy0, hy1, hy2⟩ := info_parts infoR
  obtain ⟨i0, hi, hz0, hz1, hz2⟩ := info_parts info3
  have C1 := Lib.hid (signs_any s w (by omega) hT)
  have hL : (sgs (bl s)).length ≤ 100000 := by have := sgs_len _ (bl s) (Nat.le_refl _); rw [bl_len] at this; omega
  have hjn : jn (sgs (bl s)) = bl s := jn_sgs _ _ (Nat.le_refl _)
  generalize sgs (bl s) = L at *
  go_enter Tryd.func7, Tryd.ntmps7
  go_wp2_with (first
    | (go_at_call 15; (with_reducible refine C1.out.mono ?_); rintro e w1 ⟨lv, rfl, ho1, hb1⟩; have hls1 := LS.of_own ho1 ((Below.refl w1.heap.size w1).alloc (Nat.le_refl _) (Obj.cells #[lv, .slice none 0 0, .int .i64 0] 49)) (Nat.le_refl _); obtain ⟨lA, lc, rfl, hlc, _⟩ := ho1.clip))
  have hz1' : w.heap.size ≤ w1.heap.size := hb1.size
  have G0 := C3.new w1 (.slice lA L.length lc) (.slice none 0 0) (.int .i64 0) 49
  have hst0 : St w1.heap.size (.slice lA L.length lc) (.slice none 0 0) L 0 (w1.alloc (Obj.cells #[.slice lA L.length lc, .slice none 0 0, .int .i64 0] 49)) := ⟨⟨G0.k0, G0.k1, G0.k2, G0.fr 1, G0.fr 2, G0.lt⟩, hls1, Nat.zero_le _, by omega⟩
  clear G0 hls1 ho1
  go_loopw [6, 20] (fun n idx wr => ∃ k, n = .int .i64 (posn L k : Nat) ∧ idx = .int .i64 (k : Nat) ∧ k ≤ L.length ∧ SA w1.heap.size (.slice lA L.length lc) L 0 k wr ∧ Below w.heap.size w wr) (fun _ idx _ => L.length - (RowKit.intOf idx).toNat)
  case atStart => exact ⟨0, rfl, rfl, Nat.zero_le _, ⟨none, 0, hst0, World.ownsRow_nil _ _ _ _⟩, hb1.alloc hb1.size _⟩
  case round =>
    obtain ⟨k, rfl, rfl, hk, ⟨A, c, hst, hown⟩, hbw⟩ := hrel
    have hpl := posn_le L k
    have c1 := hst.rs.c1
    have lb := hst.rs.lt
    by_cases hkn : k < L.length
    · obtain ⟨A2, c2', e2, _, hr2⟩ := hst.ls.ex
      injection e2 with e2 _ e3
      subst e2 e3
      obtain ⟨g, rfl, hgb, hcell⟩ := hr2 (by omega)
      have hck := hcell k hkn
      have hps := posn_succ hkn
      clear hcell hr2
      generalize L.getD k 0 = x at *
      go_wp2_with (first
        | (go_at_call 16; fail)
        | (at_builtin; refine wpList_append_own _ rfl _ _ 33 rfl (w1.heap.size + 1) 3 i0 (.int .i64 0) 1 8 Tryd.underlying33 hi hz0 hz1 hz2 rfl (by decide) _ _ _ rfl (hown.alloc _) ⟨wr.heap.size, 0, none⟩ 1 1 [.int .i64 (posn L k : Nat)] rfl rfl (one_new _ _ _) (one_int _) ?c3 ?c4 ?c5 ?_))
      case c3 => first | (unfold maxLen; omega) | omega
      case c4 => omega
      case c5 => first | omega | (simp; omega)
      intro v' w9 hown' hgrow _
      have hB9 : Below (w1.heap.size + 1) wr w9 := ((Below.refl _ _).alloc (by omega) _).grown hgrow (by simp; omega) (fun j hj => by have := (hown.lt j hj).1; omega)
      obtain ⟨A', c', rfl⟩ := row_slice (l := posns L (k + 1)) (by rw [posns_succ, cl, List.map_append]; simpa [cl] using hown')
      have hown9 : w9.ownsRow (w1.heap.size + 1) 3 1 (.slice A' (k + 1) c') (k + 1) (cl (posns L (k + 1))) := by rw [posns_succ, cl, List.map_append]; simpa [cl] using hown'
      have hst9 := hst.upto hB9 (by omega)
      have d1 := hst9.rs.c1
      have g1 := hst9.rs.f1
      have l9 := hst9.rs.lt
      have hstA := hst9.setAv (.slice A' (k + 1) c')
      have hownA := own_but hown9 (But.set w1.heap.size 1 w9 (.slice A' (k + 1) c')) (by omega)
      have hbA : Below w.heap.size w (w9.setCell ⟨w1.heap.size, 1, none⟩ (.slice A' (k + 1) c')) := (hbw.trans (hB9.mono (by omega))).setCell hz1' _
      clear hgrow hown hown' hown9 hst
      have P := Lib.hid (put_lit x w9 ⟨w1.heap.size, 1, none⟩ (.slice A' (k + 1) c'))
      have hsz := jn_one_size x
      have h4 := one_len x
      generalize (⟨(jn [x]).toArray⟩ : ByteArray) = T at *
      go_wp2_with (first
        | (go_at_call 16; (with_reducible refine P.out.mono ?_); rintro e w10 ⟨rfl, hb10⟩))
      refine ⟨⟨k + 1, by go_num, by go_num, by omega, ⟨A', c', hstA.below (((Below.refl _ _).alloc (Nat.le_refl _) _).trans (hb10.mono (by simp))), own_below (own_below hownA ((Below.refl _ _).alloc (Nat.le_refl _) _)) hb10⟩, ?_⟩, by simp [RowKit.intOf]; omega⟩
      exact btr (hbA.alloc hbA.size _) hb10
    · have hkl : k = L.length := by omega
      subst hkl
      go_wp2_with (first
        | (at_builtin; refine wpList_append_own _ rfl _ _ 33 rfl (w1.heap.size + 1) 3 i0 (.int .i64 0) 1 8 Tryd.underlying33 hi hz0 hz1 hz2 rfl (by decide) _ _ _ rfl (hown.alloc _) ⟨wr.heap.size, 0, none⟩ 1 1 [.int .i64 (posn L L.length : Nat)] rfl rfl (one_new _ _ _) (one_int _) ?c3 ?c4 ?c5 ?_))
      case c3 => first | (unfold maxLen; omega) | omega
      case c4 => omega
      case c5 => first | omega | (simp; omega)
      intro v' w9 hown' hgrow _
      have hB9 : Below (w1.heap.size + 1) wr w9 := ((Below.refl _ _).alloc (by omega) _).grown hgrow (by simp; omega) (fun j hj => by have := (hown.lt j hj).1; omega)
      obtain ⟨A', c', rfl⟩ := row_slice (l := posns L (L.length + 1)) (by rw [posns_succ, cl, List.map_append]; simpa [cl] using hown')
      have hown9 : w9.ownsRow (w1.heap.size + 1) 3 1 (.slice A' (L.length + 1) c') (L.length + 1) (cl (posns L (L.length + 1))) := by rw [posns_succ, cl, List.map_append]; simpa [cl] using hown'
      have hst9 := hst.upto hB9 (by omega)
      have d1 := hst9.rs.c1
      have g1 := hst9.rs.f1
      have l9 := hst9.rs.lt
      have hstA := hst9.setAv (.slice A' (L.length + 1) c')
      have hownA := own_but hown9 (But.set w1.heap.size 1 w9 (.slice A' (L.length + 1) c')) (by omega)
      have hbA : Below w.heap.size w (w9.setCell ⟨w1.heap.size, 1, none⟩ (.slice A' (L.length + 1) c')) := (hbw.trans (hB9.mono (by omega))).setCell hz1' _
      clear hgrow hown hown' hown9 hst
      have BL := Lib.hid (blank_rd hstA)
      go_wp2_with (first
        | (go_at_call 17; (with_reducible refine BL.out.mono ?_); rintro e w10 ⟨rfl, k0, hk0, hs10, hb10⟩))
      have hown10 := own_but hownA hb10 (by omega)
      have hbw10 : Below w.heap.size w w10 := hbA.trans (hb10.below hz1' hbA.size)
      have hin : L.drop 0 = L := rfl
      rw [hin] at hk0
      clear hstA hownA hbA hb10 BL hpl c1 lb hB9 d1 g1 l9 hbw
      go_loopw [2] (fun v wr => ∃ (k f : Nat) (acc : List (Rl × Value × Value)), St w1.heap.size (.slice lA L.length lc) (.slice A' (L.length + 1) c') L k wr ∧ wr.ownsRow (w1.heap.size + 1) 3 1 (.slice A' (L.length + 1) c') (L.length + 1) (cl (posns L (L.length + 1))) ∧ Below w.heap.size w wr ∧ wr.ownsRow (w1.heap.size + 1) 43 3 v acc.length (cellsR acc) ∧ (∀ p ∈ acc, Own wr (w1.heap.size + 1) p.2.1 p.1.seq ∧ Own wr (w1.heap.size + 1) p.2.2 p.1.exp) ∧ acc.length + (L.drop k).length ≤ L.length ∧ (L.drop k).length ≤ f ∧ Hid (parseP L.length [] (blankP L) = parseP f (acc.map (·.1)) (L.drop k))) (fun _ wr => L.length - ixOf w1.heap.size wr)
      case atStart => exact ⟨k0, L.length, [], hs10, hown10, hbw10, World.ownsRow_nil _ _ _ _, (fun p hp => by cases hp), (by rw [hk0]; have := blankP_len L; simp; exact this), (by rw [hk0]; exact blankP_len L), Lib.hid (by rw [hk0]; rfl)⟩
      case round =>
        obtain ⟨k, f, acc, hst, hat, hbw, hrow, hro, hlen, hf, hp⟩ := hrel
        have hix := hst.rs.ix
        obtain ⟨RA', rc, rfl⟩ := row_slice3 hrow
        have C := sign_rd hst
        by_cases hk : k < L.length
        rotate_left
        · -- the end
          rw [hd_end (L := L) (i := k) (by omega)] at C
          replace C := Lib.hid C
          rw [List.drop_eq_nil_of_le (show L.length ≤ k by omega), parseP_nil, List.length_map] at hp
          by_cases h40 : 40 < acc.length
          · rw [if_pos h40] at hp
            have h40' : 40 < (acc.length : Int) := by omega
            clear h40
            go_wp2_with (first | (go_at_call 18; (with_reducible refine C.out.mono ?_); rintro e w5 ⟨rfl, hb5⟩))
            go_ret3
            rw [hp.out]
            exact ⟨rfl, btr hbw hb5⟩
          · rw [if_neg h40] at hp
            have h40' : ¬ 40 < (acc.length : Int) := by omega
            clear h40
            obtain ⟨hac, _⟩ := RowR.of_row hrow hro
            have K := Lib.hid (fun W => clipR_any RA' acc.length rc W hac)
            go_wp2_with (first
              | (go_at_call 18; (with_reducible refine C.out.mono ?_); rintro e w5 ⟨rfl, hb5⟩)
              | (go_at_call 20; (with_reducible refine (K.out _).mono ?_); rintro e w6 ⟨rfl, rfl⟩))
            go_ret3
            rw [hp.out]
            obtain ⟨_, hR⟩ := RowR.of_row (own_below hrow hb5) (fun p hp => ⟨(hro p hp).1.below hb5, (hro p hp).2.below hb5⟩)
            refine ⟨⟨RA', acc.length, acc, by rw [List.length_map]; rfl, rfl, ?_⟩, btr hbw hb5⟩
            rw [List.length_map]
            exact hR.base (by omega)
        rw [hd_at hk] at C
        replace C := Lib.hid C
        have x0 : 0 ≤ ((L.getD k 0 : Nat) : Int) := by omega
        have hne : L.drop k ≠ [] := by rw [drop_at hk]; simp
        obtain ⟨f, rfl⟩ : ∃ f', f = f' + 1 := ⟨f - 1, by have : 0 < (L.drop k).length := List.length_pos_iff.2 hne; omega⟩
        have hall : acc.length ≤ 100000 := by omega
        generalize hx : L.getD k 0 = x at *
        by_cases h0 : acc.length = 0
        · have e0 : ((acc.length : Int) == 0) = true := by rw [h0]; rfl
          have hem : (acc.map (·.1)).isEmpty = true := by rw [List.eq_nil_of_length_eq_zero h0]; rfl
          replace h0 := Lib.hid h0
          rcases hru : ruleP true (L.drop k) with ⟨M', _ | y⟩
          · rw [parseP_none hne (by rw [hem]; exact hru)] at hp
            go_wp2_with (first
              | (go_at_call 18; (with_reducible refine C.out.mono ?_); rintro e w5 ⟨rfl, hb5⟩)
              | (go_at_call 19; (with_reducible refine (rule_rd true (hst.below hb5)).mono ?_); rintro e w6 ⟨rel, sA, sn, sc, tA, tn, tc, ok, k2, rfl, hst6, hb6, hra⟩; rw [hru] at hra; obtain ⟨rfl, hk2⟩ := (hra : ok = false ∧ L.drop k2 = M')))
            have hB6 : Below w.heap.size w w6 := (btr hbw hb5).trans (hb6.below hz1' (Nat.le_trans hbw.size hb5.size))
            have hat6 := own_but (own_below hat hb5) hb6 (Nat.lt_succ_self _)
            refine Code.world (fun W hW => ?_)
            have hW6 : Below w6.heap.size w6 W := by rw [hW]; exact (Below.refl _ _).alloc (Nat.le_refl _) _
            clear hW
            have hst7 := hst6.below hW6
            obtain ⟨g7, rfl, hc7⟩ := row_at (own_below hat6 hW6) (show k2 < L.length + 1 by have := hst7.le; omega) (posns_get (show k2 < L.length + 1 by have := hst7.le; omega))
            have c71 := hst7.rs.c1
            have c72 := hst7.rs.c2
            have l72 := hst7.le
            have hB7 := btr hB6 hW6
            have hpos := posn_drop hk2
            rw [hjn] at hpos
            clear hst6 hst7 hat6 hW6 hB6 hrow hro hst hat
            have b7 : (k2 : Int) < (L.length : Int) + 1 := by omega
            have b8 : 0 ≤ (k2 : Int) := by omega
            have b9 : k2 < L.length + 1 := by omega
            go_quiet (fail)
            go_wp2
            go_ret3
            rw [hp.out]
            exact ⟨retp3 (by first | rw [hpos] | rw [bl_len]), btr hB7 (below_drewN _ _)⟩
          · rw [parseP_some hne (by rw [hem]; exact hru)] at hp
            have hshort := ruleP_len hru
            go_wp2_with (first
              | (go_at_call 18; (with_reducible refine C.out.mono ?_); rintro e w5 ⟨rfl, hb5⟩)
              | (go_at_call 19; (with_reducible refine (rule_rd true (hst.below hb5)).mono ?_); rintro e w6 ⟨rel, sA, sn, sc, tA, tn, tc, ok, k2, rfl, hst6, hb6, hra⟩; rw [hru] at hra; obtain ⟨rfl, hk2, rfl, hoS, hoE⟩ := (hra : ok = true ∧ blankP (L.drop k2) = M' ∧ rel = (y.rel : Nat) ∧ Own w6 w5.heap.size (.slice sA sn sc) y.seq ∧ Own w6 w5.heap.size (.slice tA tn tc) y.exp); have hrow6 := own_but (own_below hrow hb5) hb6 (Nat.lt_succ_self _); have hbase6 := hst6.rs.lt)
              | (at_builtin; refine wpList_append_own _ rfl _ _ 23 rfl (w1.heap.size + 1) 43 j0 (.agg #[.int .i64 0, .slice none 0 0, .slice none 0 0]) 3 56 Tryd.underlying23 hi' hy0 hy1 hy2 rfl (by decide) _ _ _ rfl ((hrow6.alloc _).alloc _) ⟨w6.heap.size + 1, 0, none⟩ 1 1 [.int .i64 (y.rel : Nat), .slice sA sn sc, .slice tA tn tc] rfl rfl (one_rule2 _ _ _ _ _ _) (cells_rule _ _ _ _ _ _ _) ?c3 ?c4 ?c5 ?_))
            case c3 => first | (unfold maxLen; omega) | omega
            case c4 => omega
            case c5 => first | omega | (simp; omega)
            intro v' w9 hown' hgrow _
            have hB6 : Below w.heap.size w w6 := (btr hbw hb5).trans (hb6.below hz1' (Nat.le_trans hbw.size hb5.size))
            have hz6 : w1.heap.size + 1 ≤ w6.heap.size := hbase6
            have ha6 := ((Below.refl w6.heap.size w6).alloc (Nat.le_refl _) (Obj.cells #[.int .i64 (y.rel : Nat), .slice sA sn sc, .slice tA tn tc] 43)).alloc (by simp) (Obj.cells #[.int .i64 (y.rel : Nat), .slice sA sn sc, .slice tA tn tc] 43)
            have hB9 : Below (w1.heap.size + 1) w6 w9 := (ha6.mono hz6).grown hgrow (by simp; omega) (fun j hj => by have := (hrow6.lt j hj).1; omega)
            have hst9 := hst6.upto hB9 (Nat.lt_succ_self _)
            have hat9 := own_keep (own_below (own_but (own_below hat hb5) hb6 (Nat.lt_succ_self _)) ha6) ((hrow6.alloc _).alloc _) rule_ne_int hgrow
            have hz5 : w1.heap.size + 1 ≤ w5.heap.size := Nat.le_trans hst.rs.lt hb5.size
            have kS := (((hoS.base hz5).below ha6).keep ((hrow6.alloc _).alloc _) rule_ne_int hgrow)
            have kE := (((hoE.base hz5).below ha6).keep ((hrow6.alloc _).alloc _) rule_ne_int hgrow)
            have hro9 : ∀ p ∈ acc ++ [(y, Value.slice sA sn sc, Value.slice tA tn tc)], Own w9 (w1.heap.size + 1) p.2.1 p.1.seq ∧ Own w9 (w1.heap.size + 1) p.2.2 p.1.exp := fun p hp => by
              rcases List.mem_append.1 hp with hp | hp
              · obtain ⟨q1, q2⟩ := hro p hp
                exact ⟨((((q1.below hb5).but hb6 (Nat.lt_succ_self _)).below ha6).keep ((hrow6.alloc _).alloc _) rule_ne_int hgrow), ((((q2.below hb5).but hb6 (Nat.lt_succ_self _)).below ha6).keep ((hrow6.alloc _).alloc _) rule_ne_int hgrow)⟩
              · rw [List.mem_singleton] at hp
                subst hp
                exact ⟨kS, kE⟩
            have hBw9 : Below w.heap.size w w9 := hB6.trans (hB9.mono (by omega))
            have BL := Lib.hid (blank_rd hst9)
            clear hgrow hrow6 hrow hro kS kE hoS hoE ha6 hst hst6 hat
            go_wp2_with (first
              | (go_at_call 17; (with_reducible refine BL.out.mono ?_); rintro e w10 ⟨rfl, k3, hk3, hst10, hb10⟩))
            rw [hk2] at hk3
            refine ⟨⟨k3, f, acc ++ [(y, Value.slice sA sn sc, Value.slice tA tn tc)], hst10, own_but hat9 hb10 (Nat.lt_succ_self _), hBw9.trans (hb10.below hz1' hBw9.size), ?_, fun p hp => ⟨(hro9 p hp).1.but hb10 (Nat.lt_succ_self _), (hro9 p hp).2.but hb10 (Nat.lt_succ_self _)⟩, ?_, ?_, ?_⟩, ?_⟩
            · have := own_but hown' hb10 (Nat.lt_succ_self _)
              rw [cellsR_snoc]
              simpa using this
            · rw [hk3]; simp; omega
            · rw [hk3]; omega
            · exact Lib.hid (by rw [hp.out, hk3, List.map_append]; rfl)
            · rw [hst10.rs.ix, hix]
              have e3 : (L.drop k3).length < (L.drop k).length := by rw [hk3]; exact hshort
              rw [List.length_drop, List.length_drop] at e3
              omega
        · have e0 : ((acc.length : Int) == 0) = false := by rw [beq_eq_false_iff_ne]; omega
          have hem : (acc.map (·.1)).isEmpty = false := by
            cases acc with
            | nil => exact absurd rfl h0
            | cons a l => rfl
          rcases hru : ruleP false (L.drop k) with ⟨M', _ | y⟩
          · rw [parseP_none hne (by rw [hem]; exact hru)] at hp
            go_wp2_with (first
              | (go_at_call 18; (with_reducible refine C.out.mono ?_); rintro e w5 ⟨rfl, hb5⟩)
              | (go_at_call 19; (with_reducible refine (rule_rd false (hst.below hb5)).mono ?_); rintro e w6 ⟨rel, sA, sn, sc, tA, tn, tc, ok, k2, rfl, hst6, hb6, hra⟩; rw [hru] at hra; obtain ⟨rfl, hk2⟩ := (hra : ok = false ∧ L.drop k2 = M')))
            have hB6 : Below w.heap.size w w6 := (btr hbw hb5).trans (hb6.below hz1' (Nat.le_trans hbw.size hb5.size))
            have hat6 := own_but (own_below hat hb5) hb6 (Nat.lt_succ_self _)
            refine Code.world (fun W hW => ?_)
            have hW6 : Below w6.heap.size w6 W := by rw [hW]; exact (Below.refl _ _).alloc (Nat.le_refl _) _
            clear hW
            have hst7 := hst6.below hW6
            obtain ⟨g7, rfl, hc7⟩ := row_at (own_below hat6 hW6) (show k2 < L.length + 1 by have := hst7.le; omega) (posns_get (show k2 < L.length + 1 by have := hst7.le; omega))
            have c71 := hst7.rs.c1
            have c72 := hst7.rs.c2
            have l72 := hst7.le
            have hB7 := btr hB6 hW6
            have hpos := posn_drop hk2
            rw [hjn] at hpos
            clear hst6 hst7 hat6 hW6 hB6 hrow hro hst hat
            have b7 : (k2 : Int) < (L.length : Int) + 1 := by omega
            have b8 : 0 ≤ (k2 : Int) := by omega
            have b9 : k2 < L.length + 1 := by omega
            go_quiet (fail)
            go_wp2
            go_ret3
            rw [hp.out]
            exact ⟨retp3 (by first | rw [hpos] | rw [bl_len]), btr hB7 (below_drewN _ _)⟩
          · rw [parseP_some hne (by rw [hem]; exact hru)] at hp
            have hshort := ruleP_len hru
            go_wp2_with (first
              | (go_at_call 18; (with_reducible refine C.out.mono ?_); rintro e w5 ⟨rfl, hb5⟩)
              | (go_at_call 19; (with_reducible refine (rule_rd false (hst.below hb5)).mono ?_); rintro e w6 ⟨rel, sA, sn, sc, tA, tn, tc, ok, k2, rfl, hst6, hb6, hra⟩; rw [hru] at hra; obtain ⟨rfl, hk2, rfl, hoS, hoE⟩ := (hra : ok = true ∧ blankP (L.drop k2) = M' ∧ rel = (y.rel : Nat) ∧ Own w6 w5.heap.size (.slice sA sn sc) y.seq ∧ Own w6 w5.heap.size (.slice tA tn tc) y.exp); have hrow6 := own_but (own_below hrow hb5) hb6 (Nat.lt_succ_self _); have hbase6 := hst6.rs.lt)
              | (at_builtin; refine wpList_append_own _ rfl _ _ 23 rfl (w1.heap.size + 1) 43 j0 (.agg #[.int .i64 0, .slice none 0 0, .slice none 0 0]) 3 56 Tryd.underlying23 hi' hy0 hy1 hy2 rfl (by decide) _ _ _ rfl ((hrow6.alloc _).alloc _) ⟨w6.heap.size + 1, 0, none⟩ 1 1 [.int .i64 (y.rel : Nat), .slice sA sn sc, .slice tA tn tc] rfl rfl (one_rule2 _ _ _ _ _ _) (cells_rule _ _ _ _ _ _ _) ?c3 ?c4 ?c5 ?_))
            case c3 => first | (unfold maxLen; omega) | omega
            case c4 => omega
            case c5 => first | omega | (simp; omega)
            intro v' w9 hown' hgrow _
            have hB6 : Below w.heap.size w w6 := (btr hbw hb5).trans (hb6.below hz1' (Nat.le_trans hbw.size hb5.size))
            have hz6 : w1.heap.size + 1 ≤ w6.heap.size := hbase6
            have ha6 := ((Below.refl w6.heap.size w6).alloc (Nat.le_refl _) (Obj.cells #[.int .i64 (y.rel : Nat), .slice sA sn sc, .slice tA tn tc] 43)).alloc (by simp) (Obj.cells #[.int .i64 (y.rel : Nat), .slice sA sn sc, .slice tA tn tc] 43)
            have hB9 : Below (w1.heap.size + 1) w6 w9 := (ha6.mono hz6).grown hgrow (by simp; omega) (fun j hj => by have := (hrow6.lt j hj).1; omega)
            have hst9 := hst6.upto hB9 (Nat.lt_succ_self _)
            have hat9 := own_keep (own_below (own_but (own_below hat hb5) hb6 (Nat.lt_succ_self _)) ha6) ((hrow6.alloc _).alloc _) rule_ne_int hgrow
            have hz5 : w1.heap.size + 1 ≤ w5.heap.size := Nat.le_trans hst.rs.lt hb5.size
            have kS := (((hoS.base hz5).below ha6).keep ((hrow6.alloc _).alloc _) rule_ne_int hgrow)
            have kE := (((hoE.base hz5).below ha6).keep ((hrow6.alloc _).alloc _) rule_ne_int hgrow)
            have hro9 : ∀ p ∈ acc ++ [(y, Value.slice sA sn sc, Value.slice tA tn tc)], Own w9 (w1.heap.size + 1) p.2.1 p.1.seq ∧ Own w9 (w1.heap.size + 1) p.2.2 p.1.exp := fun p hp => by
              rcases List.mem_append.1 hp with hp | hp
              · obtain ⟨q1, q2⟩ := hro p hp
                exact ⟨((((q1.below hb5).but hb6 (Nat.lt_succ_self _)).below ha6).keep ((hrow6.alloc _).alloc _) rule_ne_int hgrow), ((((q2.below hb5).but hb6 (Nat.lt_succ_self _)).below ha6).keep ((hrow6.alloc _).alloc _) rule_ne_int hgrow)⟩
              · rw [List.mem_singleton] at hp
                subst hp
                exact ⟨kS, kE⟩
            have hBw9 : Below w.heap.size w w9 := hB6.trans (hB9.mono (by omega))
            have BL := Lib.hid (blank_rd hst9)
            clear hgrow hrow6 hrow hro kS kE hoS hoE ha6 hst hst6 hat
            go_wp2_with (first
              | (go_at_call 17; (with_reducible refine BL.out.mono ?_); rintro e w10 ⟨rfl, k3, hk3, hst10, hb10⟩))
            rw [hk2] at hk3
            refine ⟨⟨k3, f, acc ++ [(y, Value.slice sA sn sc, Value.slice tA tn tc)], hst10, own_but hat9 hb10 (Nat.lt_succ_self _), hBw9.trans (hb10.below hz1' hBw9.size), ?_, fun p hp => ⟨(hro9 p hp).1.but hb10 (Nat.lt_succ_self _), (hro9 p hp).2.but hb10 (Nat.lt_succ_self _)⟩, ?_, ?_, ?_⟩, ?_⟩
            · have := own_but hown' hb10 (Nat.lt_succ_self _)
              rw [cellsR_snoc]
              simpa using this
            · rw [hk3]; simp; omega
            · rw [hk3]; omega
            · exact Lib.hid (by rw [hp.out, hk3, List.map_append]; rfl)
            · rw [hst10.rs.ix, hix]
              have e3 : (L.drop k3).length < (L.drop k).length := by rw [hk3]; exact hshort
              rw [List.length_drop, List.length_drop] at e3
              omega
end Go.Proofs.YtmpnblibbcocpaaDoor
