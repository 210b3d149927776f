/- The program and the document read the same. -/
import Derived.Test.YtfeljngmidhajaaRparseW
namespace Go.Proofs.Ytfeljngmidhajaa
open Go.RowKit Go.Mine

theorem ext_list {a b : ByteArray} (h : a.data.toList = b.data.toList) : a = b := ByteArray.ext (Array.toList_inj.1 h)

theorem front_split (t : ByteArray) (h10 : 10 ≤ t.size) (hm : t.extract 0 5 = ⟨#[80, 68, 71, 67, 1]⟩) : (t.extract 0 (t.size - 4)).data.toList = magicC ++ (t.extract 5 (t.size - 4)).data.toList := by
  have h1 : (t.extract 0 5).data.toList = magicC := by rw [hm]; rfl
  rw [toList_extract, List.drop_zero, Nat.sub_zero] at h1
  rw [toList_extract, toList_extract, List.drop_zero, Nat.sub_zero, ← h1]
  rw [show t.size - 4 = 5 + (t.size - 4 - 5) by omega, List.take_add]
  congr 2
  omega

theorem readT_lt (s : ByteArray) : ∀ c ∈ readT s, c.1 < 4294967296 := by
  unfold readT
  simp only
  split
  · intro c hc; simp at hc
  · intro c hc
    have hids := dat_ids s (tabK s (rdNum s (0, 0) 1).2 (rdNum s (0, 0) 1).1).2 (tabK s (rdNum s (0, 0) 1).2 (rdNum s (0, 0) 1).1).1
    have h1 : c.1 ∈ List.map (·.1) (dat s (tabK s (rdNum s (0, 0) 1).2 (rdNum s (0, 0) 1).1).2 (tabK s (rdNum s (0, 0) 1).2 (rdNum s (0, 0) 1).1).1).1 := List.mem_map.2 ⟨c, hc, rfl⟩
    rw [hids] at h1
    obtain ⟨e, he, hec⟩ := List.mem_map.1 h1
    rw [← hec]
    exact (tabK_lt s _ _ e he).1

theorem innerCh_length (l : List Ch) : (innerCh l).length = 1 + 8 * l.length + dataSize l := by
  simp [innerCh, num_length, tableCh_length, dataCh_length]
  omega
theorem bodyCh_inner (l : List Ch) : bodyCh l = magicC ++ innerCh l := by simp [bodyCh, innerCh]

theorem built_of_inner (t : ByteArray) (l : List Ch) (h10 : 10 ≤ t.size) (hm : t.extract 0 5 = ⟨#[80, 68, 71, 67, 1]⟩) (hse : sealed (t.extract 0 (t.size - 4)) = t) (hr : Rising l) (h : (t.extract 5 (t.size - 4)).data.toList = innerCh l) : built l = t := by
  unfold built
  rw [sortCh_rise l hr, bodyCh_inner]
  have h1 := front_split t h10 hm
  rw [h] at h1
  have h2 : t.extract 0 (t.size - 4) = ⟨(magicC ++ innerCh l).toArray⟩ := ext_list h1
  rw [← h2]
  exact hse

theorem inner_of_built (t : ByteArray) (l : List Ch) (hr : Rising l) (hb : built l = t) : (t.extract 5 (t.size - 4)).data.toList = innerCh l := by
  unfold built at hb
  rw [sortCh_rise l hr, bodyCh_inner, sealed_bytes] at hb
  have hz : t.size = 5 + (innerCh l).length + 4 := by
    rw [← hb]
    simp [ByteArray.size, num_length, magicC]
    omega
  rw [toList_extract, ← hb]
  simp only [hb, hz]
  rw [show 5 + (innerCh l).length + 4 - 4 - 5 = (innerCh l).length by omega, List.append_assoc]
  show List.take _ (List.drop 5 (magicC ++ (innerCh l ++ _))) = _
  rw [show (5 : Nat) = magicC.length from rfl, List.drop_left, List.take_left]

theorem parse_same (t : ByteArray) : parseR t = rparseR t := by
  unfold parseR rparseR openR
  by_cases h1 : 4194304 < t.size
  · rw [if_pos h1, if_pos h1]
  rw [if_neg h1, if_neg h1]
  by_cases h2 : t.size < 10
  · simp [h2]
  simp only [if_neg h2]
  by_cases h3 : t.extract 0 5 = ⟨#[80, 68, 71, 67, 1]⟩
  · simp only [h3, ne_eq, not_true_eq_false, if_false]
    have hsi := sealed_iff t (by omega)
    by_cases h4 : sealed (t.extract 0 (t.size - 4)) = t
    · have h5 := hsi.1 h4
      simp only [h4, h5, not_true_eq_false, if_false]
      cases hp : progT (t.extract 5 (t.size - 4)) with
      | some l =>
        obtain ⟨p1, p2, p3, p4, p5⟩ := progT_some _ l hp
        have hb := built_of_inner t l (by omega) h3 h4 p1 p4
        have hz : (t.extract 5 (t.size - 4)).size = (innerCh l).length := by rw [← p4, Array.length_toList]; rfl
        rw [ByteArray.size_extract, innerCh_length] at hz
        have he : buildErr l = 0 := (buildErr_iff l).2 ⟨p3, checkCh_of l [] (by simpa using rising_nodup l p1) p2, by omega⟩
        rw [p5]
        simp [finR, he, hb, p1]
      | none =>
        simp only [finR]
        by_cases h6 : buildErr (readT (t.extract 5 (t.size - 4))) = 0 ∧ built (readT (t.extract 5 (t.size - 4))) = t
        · by_cases h7 : Rising (readT (t.extract 5 (t.size - 4)))
          · exfalso
            obtain ⟨b1, b2, b3⟩ := (buildErr_iff _).1 h6.1
            have h8 := inner_of_built t _ h7 h6.2
            have h9 := progT_of (t.extract 5 (t.size - 4)) _ h7 (checkCh_ok _ [] b2 (by simp)).2 b1 (fun c hc => ⟨readT_lt _ c hc, by have := size_le_data _ c hc; omega⟩) h8
            rw [hp] at h9
            simp at h9
          · simp [h6.1, h6.2, h7]
        · have h8 : buildErr (readT (t.extract 5 (t.size - 4))) ≠ 0 ∨ built (readT (t.extract 5 (t.size - 4))) ≠ t := by
            apply Classical.byContradiction
            intro q
            exact h6 ⟨Classical.byContradiction fun z => q (Or.inl z), Classical.byContradiction fun z => q (Or.inr z)⟩
          simp only [ne_eq] at h8
          simp [h8]
    · have h5 : ¬ (rdNum (t.extract (t.size - 4) t.size) (0, 0) 4).1 = Crc.sum (nums (t.extract 0 (t.size - 4))) := fun q => h4 (hsi.2 q)
      simp [h4, h5]
  · simp [h3]
end Go.Proofs.Ytfeljngmidhajaa
