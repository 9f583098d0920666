
/- Texts with small signs (utext.FoldText, umlautref1.FoldText): what they return, where the tables of unicode/utf8 stand. -/
import Derived.Test.YtbghbfgbpdppeaaGreatDoorTextK
import Derived.Test.YtbghbfgbpdppeaaGreatDoorTextI
namespace Go.Proofs.YtbghbfgbpdppeaaGreatDoor.Tx
open Go.ChangeShapes Go.WideShapes Go.ChangeAt Go.RowKit Go.Lib
set_option linter.unusedVariables false

theorem fold_le {c : Nat} (h : c ≤ 1114367) : fold c ≤ 1114367 := by
  unfold fold
  repeat' split
  all_goals omega
theorem sgs_max {l : List UInt8} {k : Nat} (h : k < (sgs l).length) : (sgs l).getD k 0 ≤ 1114367 := by
  have hm : (sgs l).getD k 0 ∈ sgs l := by
    rw [List.getD, List.getElem?_eq_getElem h]
    exact List.getElem_mem h
  have := sgs_is _ l (Nat.le_refl _) _ hm
  unfold isSg at this
  rw [decide_eq_true_eq] at this
  omega
theorem cat_bytes (a b : List UInt8) : (ByteArray.mk a.toArray) ++ (ByteArray.mk b.toArray) = ByteArray.mk (a ++ b).toArray := by
  rw [ByteArray.mk_append_mk]
theorem jn_map_take {l : List Nat} {k : Nat} (h : k < l.length) : jn ((l.take (k + 1)).map fold) = jn ((l.take k).map fold) ++ oneB (fold (l.getD k 0)) := by
  unfold jn
  rw [List.take_add_one, List.getElem?_eq_getElem h, List.map_append, List.map_append, List.flatten_append]
  congr 1
  simp [List.getD, h]

/-- block g is just the cells cs of ints, none frozen -/
def Blk (w : World) (g : Nat) (cs : Array Value) : Prop := w.heap[g]? = some (.cells cs 3 (0, 0))
theorem Blk.cell {w : World} {g : Nat} {cs : Array Value} (h : Blk w g cs) (i : Nat) : w.cell? ⟨g, i, none⟩ = cs[i]? := cell_of_row w g i cs 3 (0, 0) h
theorem Blk.frozen {w : World} {g : Nat} {cs : Array Value} (h : Blk w g cs) (i : Nat) : w.frozen? ⟨g, i, none⟩ = false := by
  unfold Blk at h
  simp [World.frozen?, h]
theorem Blk.set_ {w : World} {g : Nat} {cs : Array Value} (h : Blk w g cs) (i : Nat) (u : Value) : Blk (w.setCell ⟨g, i, none⟩ u) g (cs.setIfInBounds i u) := by
  unfold Blk at h ⊢
  simp [World.setCell, Array.getElem?_modify, h]

theorem upd_at {L : List Nat} {k : Nat} (h : k < L.length) {cs : Array Value} (hs : L.length ≤ cs.size) (ht : cs.toList.take L.length = cl ((L.take k).map fold ++ L.drop k)) : cs[k]? = some (.int .i64 (L.getD k 0 : Nat)) := by
  have e1 : (cs.toList.take L.length)[k]? = (cl ((L.take k).map fold ++ L.drop k))[k]? := by rw [ht]
  rw [List.getElem?_take_of_lt h, Array.getElem?_toList] at e1
  rw [e1]
  have hl : ((L.take k).map fold).length = k := by simp; omega
  unfold cl
  rw [List.getElem?_map, List.getElem?_append_right (by omega), hl, Nat.sub_self, List.getElem?_drop]
  simp [List.getD, h]
theorem upd {L : List Nat} {k : Nat} (h : k < L.length) {cs : Array Value} (ht : cs.toList.take L.length = cl ((L.take k).map fold ++ L.drop k)) :
    (cs.setIfInBounds k (.int .i64 (fold (L.getD k 0) : Nat))).toList.take L.length = cl ((L.take (k + 1)).map fold ++ L.drop (k + 1)) := by
  have hl : ((L.take k).map fold).length = k := by simp; omega
  rw [Array.toList_setIfInBounds, List.take_set, ht]
  unfold cl
  rw [List.drop_eq_getElem_cons h, List.take_add_one, List.getElem?_eq_getElem h, List.map_append, List.map_append, List.map_append, List.set_append, if_neg (by simp; omega)]
  simp [List.getD, h]
  rw [Nat.min_eq_left (by omega), Nat.sub_self, List.drop_eq_getElem_cons (l := L.map fun (c : Nat) => Value.int .i64 (c : Int)) (i := k) (by simpa using h)]
  rfl

set_option maxRecDepth 100000 in
theorem FoldText_any (s : ByteArray) (w : World) (hs : s.size ≤ 100000) (hT : TabsU w) :
    Calls Tryz.prog 30 #[.string s] w fun e w' => e = .returned (.string ⟨(fdB (bl s)).toArray⟩) ∧ Below w.heap.size w w' := by
  have C1 := Lib.hid (signs_any s w (by omega) hT)
  have hlen := sgs_len _ (bl s) (Nat.le_refl _)
  rw [bl_len] at hlen
  have hf := Lib.hid (show fdB (bl s) = jn ((sgs (bl s)).map fold) from rfl)
  clear hT
  generalize sgs (bl s) = L at *
  generalize fdB (bl s) = R at *
  go_enter Tryz.func30, Tryz.ntmps30
  go_wp2_with fail
  refine C1.out.mono ?_
  rintro e w1 ⟨u, rfl, hO, hb1⟩
  rcases hO with ⟨rfl, rfl⟩ | ⟨g, cap, cur, rfl, hbg, hg, hn, hc, hsz, ht⟩
  · have P := Lib.hid (Put_any (.slice none 0 0) [] w1 ⟨none, 0, rfl, Nat.le_refl _, fun h => by simp at h⟩ (by simp))
    have hR : R = jn [] := hf.out
    go_wp2_with fail
    go_loop [10] (fun i => i = .int .i64 0) (fun _ => 0)
    case atStart => rfl
    case round =>
      obtain rfl := hrel
      go_wp2_with (go_at_call 50; (with_reducible refine P.out.mono ?_); rintro e w' ⟨rfl, hb2⟩)
      go_ret
      exact ⟨by rw [hR]; rfl, btr hb1 hb2⟩
  · go_wp2_with fail
    go_loopw [10] (fun i wr => ∃ (k : Nat) (cs : Array Value), k ≤ L.length ∧ i = .int .i64 k ∧ Blk wr g cs ∧ cap ≤ cs.size ∧ cs.toList.take L.length = cl ((L.take k).map fold ++ L.drop k) ∧ Below w.heap.size w wr) (fun i _ => L.length - (RowKit.intOf i).toNat)
    case atStart => exact ⟨0, cur, Nat.zero_le _, rfl, hg, hsz, by simpa using ht, hb1⟩
    case round =>
      obtain ⟨k, cs, hk, rfl, hB, hcs, hts, hb⟩ := hrel
      by_cases h : k < L.length
      · have x1 := (hB.cell k).trans (upd_at h (by omega) hts)
        have fz := hB.frozen k
        have B2 := Lib.hid (hB.set_ k (.int .i64 (fold (L.getD k 0) : Nat)))
        have t2 := Lib.hid (upd h hts)
        have F2 := Fold_any (L.getD k 0 : Nat)
        rw [foldZ_nat] at F2
        replace F2 := Lib.hid F2
        replace hts := Lib.hid hts
        replace hB := Lib.hid hB
        replace hg := Lib.hid hg
        generalize L.getD k 0 = x at *
        go_wp2_with (go_at_call 49; (with_reducible refine (F2.out _).mono ?_); rintro e w' ⟨rfl, rfl⟩)
        refine ⟨⟨k + 1, _, by omega, rfl, B2.out, by simpa using hcs, t2.out, hb.setCell hbg _⟩, by simp [RowKit.intOf]; omega⟩
      · have hkl : k = L.length := by omega
        subst hkl
        have hO : Own wr w.heap.size (.slice (some ⟨g, 0, none⟩) (L.map fold).length cap) (L.map fold) :=
          .inr ⟨g, cap, cs, rfl, hbg, hB, by simpa using hn, hc, hcs, by simpa using hts⟩
        have P := Put_any _ (L.map fold) wr (Rd.of_own hO) (by simp; omega)
        rw [← hf.out, List.length_map] at P
        replace P := Lib.hid P
        clear hO hts hB hg ht
        go_wp2_with (go_at_call 50; (with_reducible refine P.out.mono ?_); rintro e w' ⟨rfl, hb2⟩)
        go_ret
        exact ⟨rfl, btr hb hb2⟩
end Go.Proofs.YtbghbfgbpdppeaaGreatDoor.Tx
