/- A container's table and data read off its text, in plain words. -/
import Derived.Test.YtfeljngmidhajaaRdp
import Derived.Test.YtfeljngmidhajaaBspec
namespace Go.Proofs.Ytfeljngmidhajaa
open Go.RowKit Go.Mine

theorem snocInd {α : Type} {p : List α → Prop} (h0 : p []) (h1 : ∀ l x, p l → p (l ++ [x])) (l : List α) : p l := by
  have : ∀ l : List α, p l.reverse := by
    intro l
    induction l with
    | nil => exact h0
    | cons x l ih => rw [List.reverse_cons]; exact h1 _ _ ih
  have h := this l.reverse
  rwa [List.reverse_reverse] at h

/-- IDs and sizes as bytes -/
def tableIx : List (Nat × Nat) → List UInt8
  | [] => []
  | e :: t => num e.1 4 ++ num e.2 4 ++ tableIx t
theorem tableIx_append (a b : List (Nat × Nat)) : tableIx (a ++ b) = tableIx a ++ tableIx b := by
  induction a with
  | nil => rfl
  | cons c a ih => simp [tableIx, ih]
theorem tableIx_length (t : List (Nat × Nat)) : (tableIx t).length = 8 * t.length := by
  induction t with
  | nil => rfl
  | cons c l ih => simp [tableIx, ih, num_length]; omega
def ixOf (l : List Ch) : List (Nat × Nat) := l.map fun c => (c.1, c.2.size)
theorem tableCh_ix (l : List Ch) : tableCh l = tableIx (ixOf l) := by
  induction l with
  | nil => rfl
  | cons c l ih => simp [tableCh, ixOf, tableIx, ih]
def sizes (t : List (Nat × Nat)) : Nat := (t.map (·.2)).sum
theorem sizes_ix (l : List Ch) : sizes (ixOf l) = dataSize l := by
  induction l with
  | nil => rfl
  | cons c l ih => simp [sizes, ixOf, dataSize] at ih ⊢; omega

/-- k rows of the table -/
def tabK (s : ByteArray) (st : Nat × Nat) : Nat → List (Nat × Nat) × (Nat × Nat)
  | 0 => ([], st)
  | k + 1 => ((tabK s st k).1 ++ [((rdNum s (tabK s st k).2 4).1, (rdNum s (rdNum s (tabK s st k).2 4).2 4).1)], (rdNum s (rdNum s (tabK s st k).2 4).2 4).2)
/-- one row's data -/
def datStep (s : ByteArray) (q : List Ch × (Nat × Nat)) (e : Nat × Nat) : List Ch × (Nat × Nat) := (q.1 ++ [(e.1, (rdRaw s q.2 e.2).1)], (rdRaw s q.2 e.2).2)
/-- the rows' data -/
def dat (s : ByteArray) (st : Nat × Nat) (t : List (Nat × Nat)) : List Ch × (Nat × Nat) := t.foldl (datStep s) ([], st)
theorem dat_snoc (s : ByteArray) (st : Nat × Nat) (t : List (Nat × Nat)) (e : Nat × Nat) : dat s st (t ++ [e]) = datStep s (dat s st t) e := by simp [dat]
theorem dat_take (s : ByteArray) (st : Nat × Nat) (t : List (Nat × Nat)) (j : Nat) (e : Nat × Nat) (h : t[j]? = some e) : dat s st (t.take (j + 1)) = datStep s (dat s st (t.take j)) e := by
  rw [List.take_add_one, h]
  exact dat_snoc s st _ e

theorem tabK_length (s : ByteArray) (st : Nat × Nat) (k : Nat) : (tabK s st k).1.length = k := by
  induction k with
  | zero => rfl
  | succ k ih => simp [tabK, ih]
theorem tabK_take (s : ByteArray) (st : Nat × Nat) (n k : Nat) (h : k ≤ n) : (tabK s st n).1.take k = (tabK s st k).1 := by
  induction n with
  | zero =>
    obtain rfl : k = 0 := by omega
    rfl
  | succ n ih =>
    rcases Nat.lt_or_ge n k with hk | hk
    · obtain rfl : k = n + 1 := by omega
      exact List.take_of_length_le (by rw [tabK_length]; exact Nat.le_refl _)
    · rw [tabK, List.take_append_of_le_length (by rw [tabK_length]; exact hk)]
      exact ih hk
theorem rdNum_at (s : ByteArray) (st : Nat × Nat) (n : Nat) (h : st.1 ≤ s.size) : (rdNum s st n).2.1 ≤ s.size := rdRaw_at s st n h
theorem tabK_at (s : ByteArray) (st : Nat × Nat) (k : Nat) (h : st.1 ≤ s.size) : (tabK s st k).2.1 ≤ s.size := by
  induction k with
  | zero => exact h
  | succ k ih => exact rdNum_at _ _ _ (rdNum_at _ _ _ ih)
theorem tabK_err (s : ByteArray) (st : Nat × Nat) (k : Nat) (h : st.2 = 0 ∨ st.2 = 2) : (tabK s st k).2.2 = 0 ∨ (tabK s st k).2.2 = 2 := by
  induction k with
  | zero => exact h
  | succ k ih => exact rdRaw_err _ _ _ (rdRaw_err _ _ _ ih)
theorem tabK_lt (s : ByteArray) (st : Nat × Nat) (k : Nat) : ∀ e ∈ (tabK s st k).1, e.1 < 4294967296 ∧ e.2 < 4294967296 := by
  induction k with
  | zero => intro e h; simp [tabK] at h
  | succ k ih =>
    intro e h
    rw [tabK, List.mem_append] at h
    rcases h with h | h
    · exact ih e h
    · rw [List.mem_singleton] at h
      subst h
      exact ⟨rdNum_lt _ _ 4, rdNum_lt _ _ 4⟩
theorem dat_length (s : ByteArray) (st : Nat × Nat) (t : List (Nat × Nat)) : (dat s st t).1.length = t.length := by
  induction t using snocInd with
  | h0 => rfl
  | h1 t e ih => rw [dat_snoc]; simp [datStep, ih]
theorem dat_at (s : ByteArray) (st : Nat × Nat) (t : List (Nat × Nat)) (h : st.1 ≤ s.size) : (dat s st t).2.1 ≤ s.size := by
  induction t using snocInd with
  | h0 => exact h
  | h1 t e ih => rw [dat_snoc]; exact rdRaw_at _ _ _ ih
theorem dat_err (s : ByteArray) (st : Nat × Nat) (t : List (Nat × Nat)) (h : st.2 = 0 ∨ st.2 = 2) : (dat s st t).2.2 = 0 ∨ (dat s st t).2.2 = 2 := by
  induction t using snocInd with
  | h0 => exact h
  | h1 t e ih => rw [dat_snoc]; exact rdRaw_err _ _ _ ih
theorem dat_ids (s : ByteArray) (st : Nat × Nat) (t : List (Nat × Nat)) : (dat s st t).1.map (·.1) = t.map (·.1) := by
  induction t using snocInd with
  | h0 => rfl
  | h1 t e ih => rw [dat_snoc]; simp [datStep, ih]
theorem dat_small (s : ByteArray) (st : Nat × Nat) (t : List (Nat × Nat)) : ∀ c ∈ (dat s st t).1, c.2.size ≤ s.size := by
  induction t using snocInd with
  | h0 => intro c hc; simp [dat] at hc
  | h1 t e ih =>
    intro c hc
    rw [dat_snoc, datStep, List.mem_append] at hc
    rcases hc with hc | hc
    · exact ih c hc
    · rw [List.mem_singleton] at hc
      subst hc
      exact rdRaw_size2 _ _ _

/-- a table that was read well stands there -/
theorem tabK_bytes (s : ByteArray) (p : Nat) (k : Nat) (h : (tabK s (p, 0) k).2.2 = 0) (hp : p ≤ s.size) : p + 8 * k ≤ s.size ∧ (tabK s (p, 0) k).2 = (p + 8 * k, 0) ∧ tableIx (tabK s (p, 0) k).1 = (s.data.toList.drop p).take (8 * k) := by
  induction k with
  | zero => exact ⟨by omega, rfl, by simp [tabK, tableIx]⟩
  | succ k ih =>
    rw [tabK] at h
    obtain ⟨b1, b2, b3⟩ := rdNum_next s _ 4 h
    obtain ⟨a1, a2, a3⟩ := rdNum_next s _ 4 b1
    obtain ⟨i1, i2, i3⟩ := ih a1
    have hb := rdNum_bytes s _ 4 h
    have ha := rdNum_bytes s _ 4 b1
    rw [a3] at b2 b3 hb
    rw [tabK]
    clear ih h b1 a1
    generalize tabK s (p, 0) k = q at *
    obtain ⟨t, q2⟩ := q
    simp only at *
    subst i2
    simp only at *
    refine ⟨by omega, ?_, ?_⟩
    · rw [a3, b3]
      simp only [Prod.mk.injEq, and_true]
      omega
    · rw [tableIx_append, i3]
      simp only [tableIx, List.append_nil]
      rw [ha, a3, hb]
      have e1 : List.take (8 * (k + 1)) (List.drop p s.data.toList) = List.take (8 * k) (List.drop p s.data.toList) ++ List.take 8 (List.drop (p + 8 * k) s.data.toList) := by
        rw [show 8 * (k + 1) = 8 * k + 8 by omega, List.take_add, List.drop_drop]
      have e2 : List.take 8 (List.drop (p + 8 * k) s.data.toList) = List.take 4 (List.drop (p + 8 * k) s.data.toList) ++ List.take 4 (List.drop (p + 8 * k + 4) s.data.toList) := by
        rw [show (8:Nat) = 4 + 4 from rfl, List.take_add, List.drop_drop]
      rw [e1, e2]

/-- data that were read well stand there -/
theorem dat_bytes (s : ByteArray) (p : Nat) (t : List (Nat × Nat)) (h : (dat s (p, 0) t).2.2 = 0) (hp : p ≤ s.size) :
    p + sizes t ≤ s.size ∧ (dat s (p, 0) t).2 = (p + sizes t, 0) ∧ ixOf (dat s (p, 0) t).1 = t ∧ dataCh (dat s (p, 0) t).1 = (s.data.toList.drop p).take (sizes t) := by
  induction t using snocInd with
  | h0 => exact ⟨by simpa [sizes] using hp, by simp [dat, sizes], by simp [dat, ixOf], by simp [dat, dataCh, sizes]⟩
  | h1 t e ih =>
    rw [dat_snoc] at h ⊢
    have hz : sizes (t ++ [e]) = sizes t + e.2 := by simp [sizes]
    rw [hz]
    simp only [datStep] at h ⊢
    obtain ⟨a1, a2, a3⟩ := rdRaw_ok s _ _ h
    obtain ⟨b1, b2⟩ := rdRaw_bytes s _ _ h
    obtain ⟨i1, i2, i3, i4⟩ := ih a1
    rw [i2] at a2 a3 b1 b2 ⊢
    simp only at a2 b1
    refine ⟨by omega, ?_, ?_, ?_⟩
    · rw [a3]
      simp only [Prod.mk.injEq, and_true]
      omega
    · unfold ixOf at i3 ⊢
      rw [List.map_append, i3]
      simp only [List.map_cons, List.map_nil, b2]
    · rw [dataCh_append, i4, List.take_add, List.drop_drop]
      simp only [dataCh, List.append_nil]
      rw [b1]

/-- a table that stands there is read -/
theorem tabK_there (s : ByteArray) (p : Nat) (r : List UInt8) (t : List (Nat × Nat)) (h : s.data.toList.drop p = tableIx t ++ r) (hp : p ≤ s.size) (ht : ∀ e ∈ t, e.1 < 4294967296 ∧ e.2 < 4294967296) : tabK s (p, 0) t.length = (t, (p + 8 * t.length, 0)) := by
  induction t using snocInd generalizing r with
  | h0 => rfl
  | h1 t e ih =>
    rw [tableIx_append, List.append_assoc] at h
    have hi := ih _ h fun e he => ht e (List.mem_append_left _ he)
    obtain ⟨e1, e2⟩ := ht e (by simp)
    have hl : s.size - p = 8 * t.length + (8 + r.length) := by
      have := congrArg List.length h
      simp [tableIx_length, tableIx, num_length] at this
      omega
    have hd : s.data.toList.drop (p + 8 * t.length) = num e.1 4 ++ (num e.2 4 ++ r) := by
      rw [← List.drop_drop, h, ← tableIx_length t, List.drop_left]
      simp [tableIx]
    have ha := rdNum_there s (p + 8 * t.length) e.1 4 _ hd (by omega) e1
    have hd2 : s.data.toList.drop (p + 8 * t.length + 4) = num e.2 4 ++ r := by
      rw [← List.drop_drop, hd, List.drop_append_of_le_length (by rw [num_length]; exact Nat.le_refl _), List.drop_of_length_le (by rw [num_length]; exact Nat.le_refl _)]
      rfl
    have hb := rdNum_there s (p + 8 * t.length + 4) e.2 4 _ hd2 (by omega) e2
    rw [List.length_append, List.length_singleton, tabK, hi]
    simp only
    rw [ha]
    simp only
    rw [hb]
    simp only [Prod.mk.injEq, and_true, true_and]
    omega

/-- data that stand there are read -/
theorem dat_there (s : ByteArray) (p : Nat) (l : List Ch) (r : List UInt8) (h : s.data.toList.drop p = dataCh l ++ r) (hp : p ≤ s.size) : dat s (p, 0) (ixOf l) = (l, (p + dataSize l, 0)) := by
  induction l using snocInd generalizing r with
  | h0 => rfl
  | h1 l c ih =>
    rw [dataCh_append, List.append_assoc] at h
    have hi := ih _ h
    have hz : dataSize (l ++ [c]) = dataSize l + c.2.size := by simp [dataSize_append, dataSize]
    have hl : s.size - p = dataSize l + (c.2.size + r.length) := by
      have := congrArg List.length h
      simp [dataCh_length, dataCh] at this
      omega
    have hd : s.data.toList.drop (p + dataSize l) = c.2.data.toList ++ r := by
      rw [← List.drop_drop, h, ← dataCh_length l, List.drop_left]
      simp [dataCh]
    have ha := rdRaw_there s (p + dataSize l) _ _ hd (by omega)
    have e1 : c.2.data.toList.length = c.2.size := by simp
    have e2 : (⟨c.2.data.toList.toArray⟩ : ByteArray) = c.2 := by simp
    rw [e1, e2] at ha
    have e3 : ixOf (l ++ [c]) = ixOf l ++ [(c.1, c.2.size)] := by simp [ixOf]
    rw [e3, dat_snoc, hi, hz]
    simp only [datStep, ha, Prod.mk.injEq, and_true, true_and]
    omega
end Go.Proofs.Ytfeljngmidhajaa
