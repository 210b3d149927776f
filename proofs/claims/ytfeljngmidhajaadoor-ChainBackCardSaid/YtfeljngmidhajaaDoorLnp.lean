/- A chain's links read off their text, in plain words: just what Encode tells is read. -/
import Derived.Test.YtfeljngmidhajaaDoorTurnp
import Derived.Test.YtfeljngmidhajaaDoorLnE
namespace Go.Proofs.YtfeljngmidhajaaDoor
open Go.RowKit Go.Mine

/-- k links -/
def lnK (s : ByteArray) (st : Nat × Nat) : Nat → List Ln × (Nat × Nat)
  | 0 => ([], st)
  | k + 1 => ((lnK s st k).1 ++ [(((rdNum s (lnK s st k).2 4).1 : Int), ((rdNum s (rdNum s (lnK s st k).2 4).2 4).1 : Int), (rdNum s (rdNum s (rdNum s (lnK s st k).2 4).2 4).2 4).1)],
      (rdNum s (rdNum s (rdNum s (lnK s st k).2 4).2 4).2 4).2)
theorem lnK_length (s : ByteArray) (st : Nat × Nat) (k : Nat) : (lnK s st k).1.length = k := by
  induction k with
  | zero => rfl
  | succ k ih => simp [lnK, ih]
theorem rdNum_at (s : ByteArray) (st : Nat × Nat) (n : Nat) (h : st.1 ≤ s.size) : (rdNum s st n).2.1 ≤ s.size := rdRaw_at s st n h
theorem lnK_at (s : ByteArray) (st : Nat × Nat) (k : Nat) (h : st.1 ≤ s.size) : (lnK s st k).2.1 ≤ s.size := by
  induction k with
  | zero => exact h
  | succ k ih => exact rdNum_at _ _ _ (rdNum_at _ _ _ (rdNum_at _ _ _ ih))
theorem lnK_bad (s : ByteArray) (st : Nat × Nat) (k : Nat) (h : st.2 ≠ 0) : (lnK s st k).2 = st := by
  induction k with
  | zero => rfl
  | succ k ih =>
    have h1 : (rdNum s st 4).2 = st := by rw [rdNum, rdRaw_bad s st _ h]
    rw [lnK]
    simp only [ih, h1]
theorem lnK_lt (s : ByteArray) (st : Nat × Nat) (k : Nat) : ∀ x ∈ (lnK s st k).1, I64 x.1 ∧ I64 x.2.1 ∧ x.2.2 < 4294967296 := by
  induction k with
  | zero => intro e h; simp [lnK] at h
  | succ k ih =>
    intro e h
    rw [lnK, List.mem_append] at h
    rcases h with h | h
    · exact ih e h
    · rw [List.mem_singleton] at h
      subst h
      have h1 := rdNum_lt s (lnK s st k).2 4
      have h2 := rdNum_lt s (rdNum s (lnK s st k).2 4).2 4
      have h3 := rdNum_lt s (rdNum s (rdNum s (lnK s st k).2 4).2 4).2 4
      unfold I64
      refine ⟨⟨by simp only; omega, by simp only; omega⟩, ⟨by simp only; omega, by simp only; omega⟩, h3⟩

theorem lnK_bytes (s : ByteArray) (p : Nat) (k : Nat) (h : (lnK s (p, 0) k).2.2 = 0) (hp : p ≤ s.size) : p + 12 * k ≤ s.size ∧ (lnK s (p, 0) k).2 = (p + 12 * k, 0) ∧ rowsLn (lnK s (p, 0) k).1 = (s.data.toList.drop p).take (12 * k) := by
  induction k with
  | zero => exact ⟨by omega, rfl, by simp [lnK, rowsLn]⟩
  | succ k ih =>
    rw [lnK] at h
    obtain ⟨c1, c2, c3⟩ := rdNum_next s _ 4 h
    obtain ⟨b1, b2, b3⟩ := rdNum_next s _ 4 c1
    obtain ⟨a1, a2, a3⟩ := rdNum_next s _ 4 b1
    obtain ⟨i1, i2, i3⟩ := ih a1
    have hc := rdNum_bytes s _ 4 h
    have hb := rdNum_bytes s _ 4 c1
    have ha := rdNum_bytes s _ 4 b1
    rw [lnK]
    clear ih h b1 a1 c1
    generalize lnK s (p, 0) k = q at *
    obtain ⟨t, q2⟩ := q
    simp only at *
    subst i2
    simp only at *
    rw [a3] at b2 b3 hb c2 c3 hc
    simp only at b2 b3 hb
    rw [b3] at c2 c3 hc
    simp only at c2 c3 hc
    refine ⟨by omega, ?_, ?_⟩
    · rw [a3, b3, c3]
      simp only [Prod.mk.injEq, and_true]
      omega
    · rw [rowsLn_append, i3]
      simp only [rowsLn, rowLn, List.append_nil, Int.toNat_natCast]
      rw [ha, a3, hb, b3, hc]
      have e1 : List.take (12 * (k + 1)) (List.drop p s.data.toList) = List.take (12 * k) (List.drop p s.data.toList) ++ List.take 12 (List.drop (p + 12 * k) s.data.toList) := by
        rw [show 12 * (k + 1) = 12 * k + 12 by omega, List.take_add, List.drop_drop]
      have e2 : List.take 12 (List.drop (p + 12 * k) s.data.toList) = List.take 4 (List.drop (p + 12 * k) s.data.toList) ++ List.take 4 (List.drop (p + 12 * k + 4) s.data.toList) ++ List.take 4 (List.drop (p + 12 * k + 4 + 4) s.data.toList) := by
        rw [show (12:Nat) = 4 + (4 + 4) from rfl, List.take_add, List.take_add, List.drop_drop, List.drop_drop, List.append_assoc]
      rw [e1, e2]

theorem lsnocInd {α : Type} {p : List α → Prop} (h0 : p []) (h1 : ∀ l x, p l → p (l ++ [x])) (l : List α) : p l := by
  have : ∀ l : List α, p l.reverse := by
    intro l
    induction l with
    | nil => exact h0
    | cons x l ih => rw [List.reverse_cons]; exact h1 _ _ ih
  have h := this l.reverse
  rwa [List.reverse_reverse] at h

theorem lnK_there (s : ByteArray) (p : Nat) (r : List UInt8) (l : List Ln) (h : s.data.toList.drop p = rowsLn l ++ r) (hp : p ≤ s.size)
    (hl : ∀ x ∈ l, 0 ≤ x.1 ∧ x.1 < 4294967296 ∧ 0 ≤ x.2.1 ∧ x.2.1 < 4294967296 ∧ x.2.2 < 4294967296) : lnK s (p, 0) l.length = (l, (p + 12 * l.length, 0)) := by
  induction l using lsnocInd generalizing r with
  | h0 => rfl
  | h1 l x ih =>
    rw [rowsLn_append, List.append_assoc] at h
    have hi := ih _ h fun e he => hl e (List.mem_append_left _ he)
    obtain ⟨x1, x2, x3, x4, x5⟩ := hl x (by simp)
    have hln : s.size - p = 12 * l.length + (12 + r.length) := by
      have := congrArg List.length h
      simp [rowsLn_length, rowsLn, rowLn, num_length] at this
      omega
    have hd : s.data.toList.drop (p + 12 * l.length) = num x.1.toNat 4 ++ (num x.2.1.toNat 4 ++ (num x.2.2 4 ++ r)) := by
      rw [← List.drop_drop, h, ← rowsLn_length l, List.drop_left]
      simp [rowsLn, rowLn]
    have ha := rdNum_there s (p + 12 * l.length) x.1.toNat 4 _ hd (by omega) (by omega)
    have hd2 : s.data.toList.drop (p + 12 * l.length + 4) = num x.2.1.toNat 4 ++ (num x.2.2 4 ++ r) := by
      rw [← List.drop_drop, hd, List.drop_append_of_le_length (by rw [num_length]; exact Nat.le_refl _), List.drop_of_length_le (by rw [num_length]; exact Nat.le_refl _)]
      rfl
    have hb := rdNum_there s (p + 12 * l.length + 4) x.2.1.toNat 4 _ hd2 (by omega) (by omega)
    have hd3 : s.data.toList.drop (p + 12 * l.length + 4 + 4) = num x.2.2 4 ++ r := by
      rw [← List.drop_drop, hd2, List.drop_append_of_le_length (by rw [num_length]; exact Nat.le_refl _), List.drop_of_length_le (by rw [num_length]; exact Nat.le_refl _)]
      rfl
    have hc := rdNum_there s (p + 12 * l.length + 4 + 4) x.2.2 4 _ hd3 (by omega) (by omega)
    rw [List.length_append, List.length_singleton, lnK, hi]
    simp only
    rw [ha]
    simp only
    rw [hb]
    simp only
    rw [hc]
    simp only [Prod.mk.injEq, and_true]
    refine ⟨?_, by omega⟩
    rw [Int.toNat_of_nonneg x1, Int.toNat_of_nonneg x3]

/-- what the program takes: text without magic and sum -/
def progL (s : ByteArray) : Option (List Ln) :=
  if (lnK s (rdNum s (0, 0) 1).2 (rdNum s (0, 0) 1).1).2.2 ≠ 0 ∨ (lnK s (rdNum s (0, 0) 1).2 (rdNum s (0, 0) 1).1).2.1 < s.size then none
  else if lnErr (lnK s (rdNum s (0, 0) 1).2 (rdNum s (0, 0) 1).1).1 ≠ 0 then none
  else some (lnK s (rdNum s (0, 0) 1).2 (rdNum s (0, 0) 1).1).1

theorem progL_some (s : ByteArray) (l : List Ln) (h : progL s = some l) : lnErr l = 0 ∧ s.data.toList = num l.length 1 ++ rowsLn l := by
  unfold progL at h
  split at h
  · simp at h
  · rename_i h1
    split at h
    · simp at h
    · rename_i h2
      have hl : (lnK s (rdNum s (0, 0) 1).2 (rdNum s (0, 0) 1).1).1 = l := by simpa using h
      have hle : lnErr l = 0 := by rw [← hl]; simpa using h2
      have e1 : (lnK s (rdNum s (0, 0) 1).2 (rdNum s (0, 0) 1).1).2.2 = 0 := Classical.byContradiction fun q => h1 (.inl q)
      have e2 : ¬ (lnK s (rdNum s (0, 0) 1).2 (rdNum s (0, 0) 1).1).2.1 < s.size := fun q => h1 (.inr q)
      have hc1 : (rdNum s (0, 0) 1).2.2 = 0 := by
        apply Classical.byContradiction; intro q
        rw [lnK_bad _ _ _ q] at e1; exact q e1
      obtain ⟨-, c2, c3⟩ := rdNum_next s _ 1 hc1
      have cb := rdNum_bytes s _ 1 hc1
      have hlen := lnK_length s (rdNum s (0, 0) 1).2 (rdNum s (0, 0) 1).1
      rw [hl] at hlen
      rw [← hlen] at cb hl e1 e2
      rw [c3] at hl e1 e2
      simp only [Nat.zero_add, List.drop_zero] at c2 cb hl e1 e2
      obtain ⟨t1, t2, t3⟩ := lnK_bytes s 1 l.length e1 c2
      rw [hl] at t3
      rw [t2] at e2
      simp only at e2
      refine ⟨hle, ?_⟩
      rw [cb, t3]
      have : s.data.toList = s.data.toList.take 1 ++ s.data.toList.drop 1 := (List.take_append_drop 1 _).symm
      conv => lhs; rw [this]
      congr 1
      rw [List.take_of_length_le]
      simp; omega

theorem progL_of (s : ByteArray) (l : List Ln) (he : lnErr l = 0) (hs : ∀ x ∈ l, x.2.2 < 4294967296) (h : s.data.toList = num l.length 1 ++ rowsLn l) : progL s = some l := by
  obtain ⟨h8, -, hg⟩ := lnErr_ok l he
  have hz : s.size = 1 + 12 * l.length := by
    have := congrArg List.length h
    simp [num_length, rowsLn_length] at this
    omega
  have h1 : s.data.toList.drop 0 = num l.length 1 ++ rowsLn l := by rw [List.drop_zero, h]
  have e1 := rdNum_there s 0 l.length 1 _ h1 (by omega) (by omega)
  have h2 : s.data.toList.drop 1 = rowsLn l ++ [] := by
    rw [h, List.append_nil, List.drop_append_of_le_length (by rw [num_length]; exact Nat.le_refl _), List.drop_of_length_le (by rw [num_length]; exact Nat.le_refl _)]
    rfl
  have e2 := lnK_there s 1 [] l h2 (by omega) fun x hx => by have := hg x hx; have := hs x hx; omega
  unfold progL
  rw [e1]
  simp only [Nat.zero_add]
  rw [e2]
  simp [he]
  omega
end Go.Proofs.YtfeljngmidhajaaDoor
