/- The program and the document read a chain the same. -/
import Derived.Test.YtfeljngmidhajaaDoorLnG
namespace Go.Proofs.YtfeljngmidhajaaDoor
open Go.RowKit Go.Mine

theorem ext_list {a b : ByteArray} (h : a.data.toList = b.data.toList) : a = b := ByteArray.ext (Array.toList_inj.1 h)

def innerLn (l : List Ln) : List UInt8 := num l.length 1 ++ rowsLn l
theorem bodyLn_inner (l : List Ln) : bodyLn l = magicM ++ innerLn l := by simp [bodyLn, innerLn]
theorem innerLn_length (l : List Ln) : (innerLn l).length = 1 + 12 * l.length := by simp [innerLn, num_length, rowsLn_length]

theorem front_split (t : ByteArray) (h10 : 10 ≤ t.size) (hm : t.extract 0 5 = ⟨#[80, 68, 71, 77, 1]⟩) : (t.extract 0 (t.size - 4)).data.toList = magicM ++ (t.extract 5 (t.size - 4)).data.toList := by
  have h1 : (t.extract 0 5).data.toList = magicM := by rw [hm]; rfl
  rw [toList_extract, List.drop_zero, Nat.sub_zero] at h1
  rw [toList_extract, toList_extract, List.drop_zero, Nat.sub_zero, ← h1]
  rw [show t.size - 4 = 5 + (t.size - 4 - 5) by omega, List.take_add]
  congr 2
  omega

theorem told_of_inner (t : ByteArray) (l : List Ln) (h10 : 10 ≤ t.size) (hm : t.extract 0 5 = ⟨#[80, 68, 71, 77, 1]⟩) (hse : sealed (t.extract 0 (t.size - 4)) = t) (h : (t.extract 5 (t.size - 4)).data.toList = innerLn l) : toldLn l = t := by
  unfold toldLn
  rw [bodyLn_inner]
  have h1 := front_split t h10 hm
  rw [h] at h1
  have h2 : t.extract 0 (t.size - 4) = ⟨(magicM ++ innerLn l).toArray⟩ := ext_list h1
  rw [← h2]
  exact hse

theorem told_size (l : List Ln) : (toldLn l).size = 10 + 12 * l.length := by
  unfold toldLn
  rw [bodyLn_inner, sealed_bytes]
  simp [ByteArray.size, num_length, magicM, innerLn_length]
  omega

theorem inner_of_told (t : ByteArray) (l : List Ln) (hb : toldLn l = t) : (t.extract 5 (t.size - 4)).data.toList = innerLn l := by
  have hz : t.size = 5 + (innerLn l).length + 4 := by
    rw [← hb, told_size, innerLn_length]; omega
  unfold toldLn at hb
  rw [bodyLn_inner, sealed_bytes] at hb
  rw [toList_extract, ← hb]
  simp only [hb, hz]
  rw [show 5 + (innerLn l).length + 4 - 4 - 5 = (innerLn l).length by omega, List.append_assoc]
  show List.take _ (List.drop 5 (magicM ++ (innerLn l ++ _))) = _
  rw [show (5 : Nat) = magicM.length from rfl, List.drop_left, List.take_left]

theorem readL_of (t : ByteArray) (l : List Ln) (h10 : 10 ≤ t.size) (h8 : l.length ≤ 8)
    (hl : ∀ x ∈ l, 0 ≤ x.1 ∧ x.1 < 4294967296 ∧ 0 ≤ x.2.1 ∧ x.2.1 < 4294967296 ∧ x.2.2 < 4294967296)
    (h : (t.extract 5 (t.size - 4)).data.toList = innerLn l) : readL t = l := by
  have h6 : (t.extract 6 (t.size - 4)).data.toList = rowsLn l := by
    have : (t.extract 6 (t.size - 4)).data.toList = ((t.extract 5 (t.size - 4)).data.toList).drop 1 := by
      rw [toList_extract, toList_extract, List.drop_take, List.drop_drop]
      rfl
    rw [this, h]
    rfl
  have hc : cnt t = l.length := by
    have h5 : t.data.toList[5]? = some (UInt8.ofNat (l.length / 256 ^ 0)) := by
      have : (t.extract 5 (t.size - 4)).data.toList[0]? = some (UInt8.ofNat (l.length / 256 ^ 0)) := by rw [h]; rfl
      rw [toList_extract, List.getElem?_take_of_lt (by omega), List.getElem?_drop] at this
      exact this
    unfold cnt
    rw [h5]
    simp
    omega
  unfold readL
  rw [hc, Nat.min_eq_left (by omega)]
  rw [lnK_there (t.extract 6 (t.size - 4)) 0 [] l (by rw [h6]; simp) (Nat.zero_le _) hl]

theorem readL_lt (t : ByteArray) : LnOk (readL t) := lnK_lt _ _ _

theorem progL_lt (s : ByteArray) (l : List Ln) (h : progL s = some l) : LnOk l := by
  unfold progL at h
  split at h
  · simp at h
  · split at h
    · simp at h
    · have hl : (lnK s (rdNum s (0, 0) 1).2 (rdNum s (0, 0) 1).1).1 = l := by simpa using h
      rw [← hl]
      exact lnK_lt _ _ _

theorem dec_same (t : ByteArray) : decR t = rdecR t := by
  unfold decR rdecR openR
  by_cases h2 : t.size < 10
  · simp [h2]
  simp only [if_neg h2]
  by_cases h3 : t.extract 0 5 = ⟨#[80, 68, 71, 77, 1]⟩
  · simp only [h3, ne_eq, not_true_eq_false, if_false]
    have hsi := sealed_iff t (by omega)
    by_cases h4 : sealed (t.extract 0 (t.size - 4)) = t
    · have h5 := hsi.1 h4
      simp only [h4, h5, not_true_eq_false, if_false]
      cases hp : progL (t.extract 5 (t.size - 4)) with
      | some l =>
        obtain ⟨p1, p2⟩ := progL_some _ l hp
        obtain ⟨p8, -, pg⟩ := lnErr_ok l p1
        have plt := progL_lt _ l hp
        have hb := told_of_inner t l (by omega) h3 h4 p2
        have hr := readL_of t l (by omega) p8 (fun x hx => by have := pg x hx; have := plt x hx; omega) p2
        rw [hr]
        simp [finL, p1, hb]
      | none =>
        simp only [finL]
        by_cases h6 : lnErr (readL t) = 0 ∧ toldLn (readL t) = t
        · exfalso
          have h8 := inner_of_told t _ h6.2
          have h9 := progL_of _ (readL t) h6.1 (fun x hx => (readL_lt t x hx).2.2) h8
          rw [hp] at h9
          simp at h9
        · have h8 : lnErr (readL t) ≠ 0 ∨ toldLn (readL t) ≠ t := by
            apply Classical.byContradiction
            intro q
            exact h6 ⟨Classical.byContradiction fun z => q (Or.inl z), Classical.byContradiction fun z => q (Or.inr z)⟩
          simp only [ne_eq] at h8
          simp [h8]
    · have h5 : ¬ (rdNum (t.extract (t.size - 4) t.size) (0, 0) 4).1 = Crc.sum (nums (t.extract 0 (t.size - 4))) := fun q => h4 (hsi.2 q)
      simp [h4, h5]
  · simp [h3]
end Go.Proofs.YtfeljngmidhajaaDoor
