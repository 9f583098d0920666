
/- Texts with small signs (utext.FoldText, umlautref1.FoldText): what they return, where the tables of unicode/utf8 stand. -/
import Derived.Test.YtmpnblibbcocpaaDoorTextK
import Derived.Test.YtmpnblibbcocpaaDoorTextI
namespace Go.Proofs.YtmpnblibbcocpaaDoor
open Go.ChangeShapes Go.WideShapes Go.ChangeAt Go.RowKit Go.Lib
set_option linter.unusedVariables false

theorem fold_le {c : Nat} (h : c ≤ 1114367) : fold c ≤ 1114367 := by
  unfold fold
  repeat' split
  all_goals omega
theorem sgs_max {l : List UInt8} {k : Nat} (h : k < (sgs l).length) : (sgs l).getD k 0 ≤ 1114367 := by
  have hm : (sgs l).getD k 0 ∈ sgs l := by
    rw [List.getD, List.getElem?_eq_getElem h]
    exact List.getElem_mem h
  have := sgs_is _ l (Nat.le_refl _) _ hm
  unfold isSg at this
  rw [decide_eq_true_eq] at this
  omega
theorem cat_bytes (a b : List UInt8) : (ByteArray.mk a.toArray) ++ (ByteArray.mk b.toArray) = ByteArray.mk (a ++ b).toArray := by
  rw [ByteArray.mk_append_mk]
theorem jn_map_take {l : List Nat} {k : Nat} (h : k < l.length) : jn ((l.take (k + 1)).map fold) = jn ((l.take k).map fold) ++ oneB (fold (l.getD k 0)) := by
  unfold jn
  rw [List.take_add_one, List.getElem?_eq_getElem h, List.map_append, List.map_append, List.flatten_append]
  congr 1
  simp [List.getD, h]

/-- block g is just the cells cs of ints, none frozen -/
def Blk (w : World) (g : Nat) (cs : Array Value) : Prop := w.heap[g]? = some (.cells cs 3 (0, 0))
theorem Blk.cell {w : World} {g : Nat} {cs : Array Value} (h : Blk w g cs) (i : Nat) : w.cell? ⟨g, i, none⟩ = cs[i]? := cell_of_row w g i cs 3 (0, 0) h
theorem Blk.frozen {w : World} {g : Nat} {cs : Array Value} (h : Blk w g cs) (i : Nat) : w.frozen? ⟨g, i, none⟩ = false := by
  unfold Blk at h
  simp [World.frozen?, h]
theorem Blk.set_ {w : World} {g : Nat} {cs : Array Value} (h : Blk w g cs) (i : Nat) (u : Value) : Blk (w.setCell ⟨g, i, none⟩ u) g (cs.setIfInBounds i u) := by
  unfold Blk at h ⊢
  simp [World.setCell, Array.getElem?_modify, h]

theorem upd_at {L : List Nat} {k : Nat} (h : k < L.length) {cs : Array Value} (hs : L.length ≤ cs.size) (ht : cs.toList.take L.length = cl ((L.take k).map fold ++ L.drop k)) : cs[k]? = some (.int .i64 (L.getD k 0 : Nat)) := by
  have e1 : (cs.toList.take L.length)[k]? = (cl ((L.take k).map fold ++ L.drop k))[k]? := by rw [ht]
  rw [List.getElem?_take_of_lt h, Array.getElem?_toList] at e1
  rw [e1]
  have hl : ((L.take k).map fold).length = k := by simp; omega
  unfold cl
  rw [List.getElem?_map, List.getElem?_append_right (by omega), hl, Nat.sub_self, List.getElem?_drop]
  simp [List.getD, h]
theorem upd {L : List Nat} {k : Nat} (h : k < L.length) {cs : Array Value} (ht : cs.toList.take L.length = cl ((L.take k).map fold ++ L.drop k)) :
    (cs.setIfInBounds k (.int .i64 (fold (L.getD k 0) : Nat))).toList.take L.length = cl ((L.take (k + 1)).map fold ++ L.drop (k + 1)) := by
  have hl : ((L.take k).map fold).length = k := by simp; omega
  rw [Array.toList_setIfInBounds, List.take_set, ht]
  unfold cl
  rw [List.drop_eq_getElem_cons h, List.take_add_one, List.getElem?_eq_getElem h, List.map_append, List.map_append, List.map_append, List.set_append, if_neg (by simp; omega)]
  simp [List.getD, h]
  rw [Nat.min_eq_left (by omega), Nat.sub_self, List.drop_eq_getElem_cons (l := L.map fun (c : Nat) => Value.int .i64 (c : Int)) (i := k) (by simpa using h)]
  rfl

end Go.Proofs.YtmpnblibbcocpaaDoor
