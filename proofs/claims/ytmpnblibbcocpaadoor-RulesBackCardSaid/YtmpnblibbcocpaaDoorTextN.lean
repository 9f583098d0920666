
/- Texts as signs, in plain Lean, second part: a sign's own bytes are read as it; folded texts are read as the folded signs; a text's first signs are a beginning of it. No condition. -/
import Derived.Test.YtmpnblibbcocpaaDoorTextM
namespace Go.Proofs.YtmpnblibbcocpaaDoor
open Go.Lib

theorem len_of {l : List UInt8} {a b c d : UInt8} : (a :: b :: c :: d :: l).length = l.length + 4 := rfl

/-- a code point's bytes, whatever follows, are read as it -/
theorem sg_one {c : Nat} (h : c < 55296 ∨ (57344 ≤ c ∧ c ≤ 1114111)) (t : List UInt8) : sg (oneB c ++ t) = (c, (oneB c).length) := by
  have u : ∀ n : Nat, n < 256 → (UInt8.ofNat n).toNat = n := fun n hn => by simp; omega
  have h0 : ¬ 1114112 ≤ c := by omega
  by_cases h1 : c < 128
  · have eo : oneB c = [UInt8.ofNat c] := by unfold oneB; rw [if_neg h0, if_pos h1]
    have ed : ∀ n x y z, decodeN n c x y z = (c, 1) := fun n x y z => decodeN_ascii _ _ _ _ _ h1
    rw [eo]
    unfold sg sgN bt
    simp only [List.cons_append, List.nil_append, List.getD_cons_zero, List.getD_cons_succ, List.length_cons, List.length_nil]
    rw [u c (by omega), ed, if_neg (by simp; omega)]
  by_cases h2 : c < 2048
  · have eo : oneB c = [UInt8.ofNat (192 + c / 64), UInt8.ofNat (128 + c % 64)] := by unfold oneB; rw [if_neg h0, if_neg h1, if_pos h2]
    have e : ∀ n x y, 1 < n → decodeN n (192 + c / 64) (128 + c % 64) x y = (c, 2) := fun n x y hn => by
      unfold decodeN
      rw [if_neg (by omega), if_pos (by omega), if_pos (by omega), Prod.mk.injEq]
      exact ⟨by omega, rfl⟩
    rw [eo]
    unfold sg sgN bt
    simp only [List.cons_append, List.nil_append, List.getD_cons_zero, List.getD_cons_succ, List.length_cons, List.length_nil]
    rw [u _ (by omega), u _ (by omega), e _ _ _ (by omega), if_neg (by simp)]
  by_cases h3 : c < 65536
  · have eo : oneB c = [UInt8.ofNat (224 + c / 4096), UInt8.ofNat (128 + c / 64 % 64), UInt8.ofNat (128 + c % 64)] := by unfold oneB; rw [if_neg h0, if_neg h1, if_neg h2, if_pos h3]
    have e : ∀ n x, 2 < n → decodeN n (224 + c / 4096) (128 + c / 64 % 64) (128 + c % 64) x = (c, 3) := fun n x hn => by
      unfold decodeN
      rw [if_neg (by omega), if_neg (by omega), if_pos (by omega), if_pos (by omega), Prod.mk.injEq]
      exact ⟨by omega, rfl⟩
    rw [eo]
    unfold sg sgN bt
    simp only [List.cons_append, List.nil_append, List.getD_cons_zero, List.getD_cons_succ, List.length_cons, List.length_nil]
    rw [u _ (by omega), u _ (by omega), u _ (by omega), e _ _ (by omega), if_neg (by simp)]
  have eo : oneB c = [UInt8.ofNat (240 + c / 262144), UInt8.ofNat (128 + c / 4096 % 64), UInt8.ofNat (128 + c / 64 % 64), UInt8.ofNat (128 + c % 64)] := by unfold oneB; rw [if_neg h0, if_neg h1, if_neg h2, if_neg h3]
  have e : ∀ n, 3 < n → decodeN n (240 + c / 262144) (128 + c / 4096 % 64) (128 + c / 64 % 64) (128 + c % 64) = (c, 4) := fun n hn => by
    unfold decodeN
    rw [if_neg (by omega), if_neg (by omega), if_neg (by omega), if_pos (by omega), if_pos (by omega), Prod.mk.injEq]
    exact ⟨by omega, rfl⟩
  rw [eo]
  unfold sg sgN bt
  simp only [List.cons_append, List.nil_append, List.getD_cons_zero, List.getD_cons_succ, List.length_cons, List.length_nil]
  rw [u _ (by omega), u _ (by omega), u _ (by omega), u _ (by omega), e _ (by omega), if_neg (by simp)]

def ct (b : UInt8) : Bool := b.toNat / 64 == 2
/-- how a text's first sign is read hangs on its first byte and the bytes behind it that go on within a sign -/
theorem sg_conts (b : UInt8) (r : List UInt8) : sg (b :: r) = sg (b :: r.takeWhile ct) := by
  have c : ∀ x : UInt8, ct x = true ↔ x.toNat / 64 = 2 := fun x => by simp [ct]
  have key : ∀ n n' b0 b1 b2 b3 c1 c2 c3 : Nat, (1 < n ∧ b1 / 64 = 2 → 1 < n' ∧ c1 = b1) → (1 < n' ∧ c1 / 64 = 2 → 1 < n ∧ c1 = b1) →
      (1 < n ∧ b1 / 64 = 2 → 2 < n ∧ b2 / 64 = 2 → 2 < n' ∧ c2 = b2) → (1 < n' ∧ c1 / 64 = 2 → 2 < n' ∧ c2 / 64 = 2 → 2 < n ∧ c2 = b2) →
      (1 < n ∧ b1 / 64 = 2 → 2 < n ∧ b2 / 64 = 2 → 3 < n ∧ b3 / 64 = 2 → 3 < n' ∧ c3 = b3) → (1 < n' ∧ c1 / 64 = 2 → 2 < n' ∧ c2 / 64 = 2 → 3 < n' ∧ c3 / 64 = 2 → 3 < n ∧ c3 = b3) →
      decodeN n b0 b1 b2 b3 = decodeN n' b0 c1 c2 c3 := by
    intro n n' b0 b1 b2 b3 c1 c2 c3 h1 h2 h3 h4 h5 h6
    by_cases k1 : 1 < n ∧ b1 / 64 = 2
    · obtain ⟨m1, rfl⟩ := h1 k1
      by_cases k2 : 2 < n ∧ b2 / 64 = 2
      · obtain ⟨m2, rfl⟩ := h3 k1 k2
        by_cases k3 : 3 < n ∧ b3 / 64 = 2
        · obtain ⟨m3, rfl⟩ := h5 k1 k2 k3
          simp only [decodeN, k1, k2, k3, m1, m2, m3, true_and]
        · have m3 : ¬ (3 < n' ∧ c3 / 64 = 2) := fun h => k3 (by obtain ⟨p, q⟩ := h6 ⟨m1, k1.2⟩ ⟨m2, k2.2⟩ h; omega)
          simp only [decodeN, k1, k2, k3, m1, m2, m3, true_and, and_false, if_false]
      · have m2 : ¬ (2 < n' ∧ c2 / 64 = 2) := fun h => k2 (by obtain ⟨p, q⟩ := h4 ⟨m1, k1.2⟩ h; omega)
        simp only [decodeN, k1, k2, m1, m2, true_and, and_false, false_and, if_false]
    · have m1 : ¬ (1 < n' ∧ c1 / 64 = 2) := fun h => k1 (by obtain ⟨p, q⟩ := h2 h; omega)
      simp only [decodeN, k1, m1, and_false, false_and, if_false]
  have go : decodeN (b :: r).length (bt (b :: r) 0) (bt (b :: r) 1) (bt (b :: r) 2) (bt (b :: r) 3) = decodeN (b :: r.takeWhile ct).length (bt (b :: r.takeWhile ct) 0) (bt (b :: r.takeWhile ct) 1) (bt (b :: r.takeWhile ct) 2) (bt (b :: r.takeWhile ct) 3) := by
    have nx : ∀ x : UInt8, ct x = false → ¬ x.toNat / 64 = 2 := fun x h hh => by rw [(c x).2 hh] at h; cases h
    rcases r with _ | ⟨x, r⟩
    · rfl
    cases hx : ct x with
    | false =>
      have hx' := nx x hx
      rw [List.takeWhile_cons_of_neg (by rw [hx]; simp)]
      apply key <;> (unfold bt; simp [hx'])
    | true =>
      have hx' := (c x).1 hx
      rw [List.takeWhile_cons_of_pos hx]
      rcases r with _ | ⟨y, r⟩
      · rfl
      cases hy : ct y with
      | false =>
        have hy' := nx y hy
        rw [List.takeWhile_cons_of_neg (by rw [hy]; simp)]
        apply key <;> (unfold bt; simp [hx', hy'])
      | true =>
        have hy' := (c y).1 hy
        rw [List.takeWhile_cons_of_pos hy]
        rcases r with _ | ⟨z, r⟩
        · rfl
        cases hz : ct z with
        | false =>
          have hz' := nx z hz
          rw [List.takeWhile_cons_of_neg (by rw [hz]; simp)]
          apply key <;> (unfold bt; simp [hx', hy', hz'])
        | true =>
          have hz' := (c z).1 hz
          rw [List.takeWhile_cons_of_pos hz]
          apply key <;> (unfold bt; simp [hx', hy', hz'])
  unfold sg sgN
  rw [go]
  rfl

/-! ### folding -/
def fold (c : Nat) : Nat :=
  if (65 ≤ c ∧ c ≤ 90) ∨ (192 ≤ c ∧ c ≤ 222 ∧ c ≠ 215) ∨ (913 ≤ c ∧ c ≤ 937 ∧ c ≠ 930) ∨ (1040 ≤ c ∧ c ≤ 1071) then c + 32
  else if 1024 ≤ c ∧ c ≤ 1039 then c + 80 else c
theorem fold_fold (c : Nat) : fold (fold c) = fold c := by
  unfold fold
  repeat' split
  all_goals omega
theorem fold_raw {c : Nat} (h : 1114112 ≤ c) : fold c = c := by
  unfold fold
  rw [if_neg (by omega), if_neg (by omega)]
theorem fold_good {c : Nat} (h : c < 55296 ∨ (57344 ≤ c ∧ c ≤ 1114111)) : fold c < 55296 ∨ (57344 ≤ fold c ∧ fold c ≤ 1114111) := by
  unfold fold
  repeat' split
  all_goals omega
theorem fold_is {c : Nat} (h : isSg c = true) : isSg (fold c) = true := by
  unfold isSg at *
  rw [decide_eq_true_eq] at *
  unfold fold
  repeat' split
  all_goals omega

theorem one_head {c : Nat} (h : c < 55296 ∨ (57344 ≤ c ∧ c ≤ 1114111)) : ∃ x t, oneB c = x :: t ∧ ct x = false := by
  have u : ∀ n : Nat, n < 256 → (UInt8.ofNat n).toNat = n := fun n hn => by simp; omega
  unfold oneB ct
  rw [if_neg (by omega)]
  by_cases h1 : c < 128
  · rw [if_pos h1]
    exact ⟨_, _, rfl, by rw [u _ (by omega), beq_eq_false_iff_ne]; omega⟩
  rw [if_neg h1]
  by_cases h2 : c < 2048
  · rw [if_pos h2]
    exact ⟨_, _, rfl, by rw [u _ (by omega), beq_eq_false_iff_ne]; omega⟩
  rw [if_neg h2]
  by_cases h3 : c < 65536
  · rw [if_pos h3]
    exact ⟨_, _, rfl, by rw [u _ (by omega), beq_eq_false_iff_ne]; omega⟩
  rw [if_neg h3]
  exact ⟨_, _, rfl, by rw [u _ (by omega), beq_eq_false_iff_ne]; omega⟩

/-- the first sign: a code point, or a byte of its own -/
theorem sg_kind (b : UInt8) (r : List UInt8) : ((sg (b :: r)).1 < 55296 ∨ (57344 ≤ (sg (b :: r)).1 ∧ (sg (b :: r)).1 ≤ 1114111)) ∨ (sg (b :: r) = (1114112 + b.toNat, 1) ∧ 128 ≤ b.toNat) := by
  have k0 := bt_lt (b :: r) 0
  have e0 : bt (b :: r) 0 = b.toNat := rfl
  unfold sg
  rcases sgN_shape (b :: r).length (bt (b :: r) 0) (bt (b :: r) 1) (bt (b :: r) 2) (bt (b :: r) 3) with ⟨c, e⟩ | ⟨c1, c2, c3, cv, e⟩ | ⟨c1, c2, c3, c4, cv, cs, e⟩ | ⟨c1, c2, c3, c4, c5, cv, cw, e⟩ | ⟨c, _, e⟩
  · left; rw [e]; simp only; omega
  · left; rw [e]; simp only; omega
  · left; rw [e]; simp only; omega
  · left; rw [e]; simp only; omega
  · right; rw [e, e0]; exact ⟨rfl, by omega⟩
theorem sg_cont {b : UInt8} (h : ct b = true) (r : List UInt8) : sg (b :: r) = (1114112 + b.toNat, 1) := by
  have hb : b.toNat / 64 = 2 := by simpa [ct] using h
  have hd : decodeN (b :: r).length (bt (b :: r) 0) (bt (b :: r) 1) (bt (b :: r) 2) (bt (b :: r) 3) = (65533, 1) := decodeN_cont _ _ _ _ _ hb
  unfold sg sgN
  rw [if_pos hd]
  rfl
theorem one_raw (b : UInt8) : oneB (1114112 + b.toNat) = [b] := by
  unfold oneB
  rw [if_pos (by omega), ofb (x := b) (by omega)]

def fdB (l : List UInt8) : List UInt8 := jn ((sgs l).map fold)
theorem fdB_step {l : List UInt8} (h : l ≠ []) : fdB l = oneB (fold (sg l).1) ++ fdB (l.drop (sg l).2) := by
  unfold fdB
  rw [sgs_step h]
  rfl
theorem fdB_nil : fdB [] = [] := by unfold fdB; rw [sgs_nil]; rfl
theorem fd_while : ∀ (k : Nat) (l : List UInt8), l.length ≤ k → (fdB l).takeWhile ct = l.takeWhile ct
  | k, [], _ => by rw [fdB_nil]
  | 0, _ :: _, h => by simp at h
  | k + 1, b :: r, h => by
    have hne : b :: r ≠ [] := by simp
    rw [fdB_step hne]
    by_cases hb : ct b = true
    · rw [sg_cont hb, fold_raw (by omega), one_raw]
      simp only [List.drop_succ_cons, List.drop_zero, List.cons_append, List.nil_append]
      rw [List.takeWhile_cons_of_pos hb, List.takeWhile_cons_of_pos hb, fd_while k r (by simpa using h)]
    · rw [List.takeWhile_cons_of_neg hb]
      rcases sg_kind b r with hk | ⟨e, _⟩
      · obtain ⟨x, t, e, hx⟩ := one_head (fold_good hk)
        rw [e, List.cons_append, List.takeWhile_cons_of_neg (by rw [hx]; simp)]
      · rw [e, fold_raw (by omega), one_raw, List.cons_append, List.takeWhile_cons_of_neg hb]
/-- folded texts are read as the folded signs -/
theorem sgs_fd : ∀ (k : Nat) (l : List UInt8), l.length ≤ k → sgs (fdB l) = (sgs l).map fold
  | k, [], _ => by rw [fdB_nil, sgs_nil]; rfl
  | 0, _ :: _, h => by simp at h
  | k + 1, b :: r, h => by
    have hne : b :: r ≠ [] := by simp
    have hp := sg_pos (b :: r)
    have ih := sgs_fd k ((b :: r).drop (sg (b :: r)).2) (by rw [List.length_drop]; omega)
    rw [fdB_step hne, sgs_step hne, List.map_cons]
    rcases sg_kind b r with hk | ⟨e, hb⟩
    · obtain ⟨x, t, eo, hx⟩ := one_head (fold_good hk)
      have hs := sg_one (fold_good hk) (fdB ((b :: r).drop (sg (b :: r)).2))
      rw [sgs_step (by rw [eo]; simp), hs]
      simp only
      rw [List.drop_left, ih]
    · rw [e, fold_raw (by omega), one_raw]
      rw [e] at ih
      simp only [List.drop_succ_cons, List.drop_zero, List.cons_append, List.nil_append] at ih ⊢
      have : sg (b :: fdB r) = (1114112 + b.toNat, 1) := by
        rw [sg_conts, fd_while r.length r (Nat.le_refl _), ← sg_conts, e]
      rw [sgs_step (by simp), this]
      simp only [List.drop_succ_cons, List.drop_zero]
      rw [ih]
theorem fd_fd (l : List UInt8) : fdB (fdB l) = fdB l := by
  have h : fdB (fdB l) = jn ((sgs (fdB l)).map fold) := rfl
  rw [h, sgs_fd _ l (Nat.le_refl _), List.map_map]
  have : fold ∘ fold = fold := funext fold_fold
  rw [this]
  rfl

/-! ### a beginning -/
theorem sgN_less (n n' b0 b1 b2 b3 c1 c2 c3 : Nat) (hn : n' ≤ n) (hw : (sgN n b0 b1 b2 b3).2 ≤ n')
    (e1 : 1 < n' → c1 = b1) (e2 : 2 < n' → c2 = b2) (e3 : 3 < n' → c3 = b3) : sgN n' b0 c1 c2 c3 = sgN n b0 b1 b2 b3 := by
  have hd : decodeN n' b0 c1 c2 c3 = decodeN n b0 b1 b2 b3 := by
    rcases sgN_shape n b0 b1 b2 b3 with ⟨c, e⟩ | ⟨k1, k2, k3, cv, e⟩ | ⟨k1, k2, k3, k4, cv, cs, e⟩ | ⟨k1, k2, k3, k4, k5, cv, cw, e⟩ | ⟨c, ed, e⟩
    · rw [decodeN_ascii _ _ _ _ _ c, decodeN_ascii _ _ _ _ _ c]
    · rw [e] at hw
      simp only at hw
      have := e1 (by omega)
      subst this
      have q : ∀ m x y, 1 < m → decodeN m b0 c1 x y = (b0 % 32 * 64 + c1 % 64, 2) := fun m x y hm => by
        unfold decodeN
        rw [if_neg (by omega), if_pos (by omega), if_pos (by omega)]
      rw [q _ _ _ (by omega), q _ _ _ (by omega)]
    · rw [e] at hw
      simp only at hw
      have := e1 (by omega)
      subst this
      have := e2 (by omega)
      subst this
      have q : ∀ m x, 2 < m → decodeN m b0 c1 c2 x = (b0 % 16 * 4096 + c1 % 64 * 64 + c2 % 64, 3) := fun m x hm => by
        unfold decodeN
        rw [if_neg (by omega), if_neg (by omega), if_pos (by omega), if_pos (by omega)]
      rw [q _ _ (by omega), q _ _ (by omega)]
    · rw [e] at hw
      simp only at hw
      have := e1 (by omega)
      subst this
      have := e2 (by omega)
      subst this
      have := e3 (by omega)
      subst this
      have q : ∀ m, 3 < m → decodeN m b0 c1 c2 c3 = (b0 % 8 * 262144 + c1 % 64 * 4096 + c2 % 64 * 64 + c3 % 64, 4) := fun m hm => by
        unfold decodeN
        rw [if_neg (by omega), if_neg (by omega), if_neg (by omega), if_pos (by omega), if_pos (by omega)]
      rw [q _ (by omega), q _ (by omega)]
    · rw [ed]
      rcases sgN_shape n' b0 c1 c2 c3 with ⟨c', e'⟩ | ⟨k1, k2, k3, cv, e'⟩ | ⟨k1, k2, k3, k4, cv, cs, e'⟩ | ⟨k1, k2, k3, k4, k5, cv, cw, e'⟩ | ⟨c', ed', e'⟩
      · omega
      · have := e1 (by omega)
        subst this
        simp only [decodeN] at ed
        rw [if_neg (by omega), if_pos (by omega), if_pos (by omega)] at ed
        injection ed with _ h
        cases h
      · have := e1 (by omega)
        subst this
        have := e2 (by omega)
        subst this
        simp only [decodeN] at ed
        rw [if_neg (by omega), if_neg (by omega), if_pos (by omega), if_pos (by omega)] at ed
        injection ed with _ h
        cases h
      · have := e1 (by omega)
        subst this
        have := e2 (by omega)
        subst this
        have := e3 (by omega)
        subst this
        simp only [decodeN] at ed
        rw [if_neg (by omega), if_neg (by omega), if_neg (by omega), if_pos (by omega), if_pos (by omega)] at ed
        injection ed with _ h
        cases h
      · exact ed'
  unfold sgN
  rw [hd]
theorem bt_take (l : List UInt8) {m k : Nat} (h : k < m) : bt (l.take m) k = bt l k := by
  unfold bt
  rw [getD_takeU l m k h]
theorem sg_take {l : List UInt8} (hne : l ≠ []) {m : Nat} (hm : (sg l).2 ≤ m) : sg (l.take m) = sg l := by
  have hp := sg_pos l
  have hl : 0 < l.length := List.length_pos_iff.2 hne
  have hle := sg_le l hne
  have h0 : bt (l.take m) 0 = bt l 0 := bt_take l (by omega)
  have hl2 : (l.take m).length = min m l.length := by simp
  show sgN _ _ _ _ _ = sgN _ _ _ _ _
  rw [h0]
  exact sgN_less _ _ _ _ _ _ _ _ _ (by omega) (by show (sg l).2 ≤ _; omega) (fun h => bt_take l (by omega)) (fun h => bt_take l (by omega)) (fun h => bt_take l (by omega))
def cutN : Nat → List UInt8 → Nat
  | 0, _ => 0
  | k + 1, l => if l = [] then 0 else (sg l).2 + cutN k (l.drop (sg l).2)
theorem cut_le : ∀ (k : Nat) (l : List UInt8), cutN k l ≤ l.length
  | 0, _ => Nat.zero_le _
  | k + 1, l => by
    unfold cutN
    split
    · exact Nat.zero_le _
    · rename_i h
      have h1 := cut_le k (l.drop (sg l).2)
      have h2 := sg_le l h
      rw [List.length_drop] at h1
      omega
theorem sgs_cut : ∀ (k : Nat) (l : List UInt8), sgs (l.take (cutN k l)) = (sgs l).take k ∧ sgs (l.drop (cutN k l)) = (sgs l).drop k
  | 0, l => by
    unfold cutN
    simp [sgs_nil]
  | k + 1, l => by
    unfold cutN
    split
    · rename_i h
      subst h
      simp [sgs_nil]
    · rename_i h
      obtain ⟨i1, i2⟩ := sgs_cut k (l.drop (sg l).2)
      have hp := sg_pos l
      have hl : 0 < l.length := List.length_pos_iff.2 h
      have hne : l.take ((sg l).2 + cutN k (l.drop (sg l).2)) ≠ [] := by
        intro e
        have := congrArg List.length e
        rw [List.length_take, List.length_nil] at this
        omega
      rw [sgs_step h, List.take_succ_cons, List.drop_succ_cons, ← i1, ← i2, List.drop_drop]
      refine ⟨?_, rfl⟩
      rw [sgs_step hne, sg_take h (by omega), List.drop_take]
      congr 2
      rw [Nat.add_sub_cancel_left]
end Go.Proofs.YtmpnblibbcocpaaDoor
