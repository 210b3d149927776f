/- What is told is read as it was; one byte turned, and nothing is read: plain. -/
import Derived.Test.YtfeljngmidhajaaDoorLnQ
import Derived.Test.YtfeljngmidhajaaDoorTurnp
import Derived.Laws.BitsAllLaws
namespace Go.Proofs.YtfeljngmidhajaaDoor
open Go.RowKit Go.Mine

theorem told_front (l : List Ln) : (toldLn l).data.toList.take 5 = magicM := by
  unfold toldLn sealed bodyLn
  simp [magicM]
theorem told_pre (l : List Ln) : (toldLn l).extract 0 ((toldLn l).size - 4) = ⟨(bodyLn l).toArray⟩ := by
  apply ext_list
  have he : (toldLn l).size = (bodyLn l).length + 4 := by
    rw [told_size, bodyLn_inner, List.length_append, innerLn_length]
    simp [magicM]
    omega
  rw [toList_extract, List.drop_zero, Nat.sub_zero, he]
  unfold toldLn sealed
  simp

theorem dec_told (l : List Ln) (h : lnErr l = 0) (hs : LnOk l) : decR (toldLn l) = .ok l := by
  have hsz := told_size l
  have hin := inner_of_told (toldLn l) l rfl
  have hp := progL_of _ l h (fun x hx => (hs x hx).2.2) hin
  unfold decR
  rw [if_neg (by omega), if_neg, if_neg]
  · rw [hp]; rfl
  · simp only [ne_eq, Decidable.not_not]
    apply (sealed_iff (toldLn l) (by omega)).1
    rw [told_pre]
    rfl
  · simp only [ne_eq, Decidable.not_not]
    apply ext_list
    rw [toList_extract, List.drop_zero, Nat.sub_zero, told_front]
    rfl

theorem dec_turned (l : List Ln) (k : Nat) (z : UInt8) (hk : k < (toldLn l).size) (hz : (toldLn l).data.toList[k]? ≠ some z) :
    decR (setB (toldLn l) k z) = .error (if k < 5 then 3 else 4) := by
  have hs := told_size l
  have hss := setB_size (toldLn l) k z
  unfold decR
  rw [if_neg (by omega)]
  have hf := told_front l
  have hx : ((setB (toldLn l) k z).extract 0 5).data.toList = (magicM).set k z := by
    rw [toList_extract, List.drop_zero, Nat.sub_zero, setB_list, List.take_set, hf]
  by_cases h5 : k < 5
  · rw [if_pos h5, if_pos]
    intro q
    rw [q] at hx
    have h6 : magicM[k]? = some z := by
      have h7 : (magicM.set k z)[k]? = some z := by rw [List.getElem?_set_self (by simpa [magicM] using h5)]
      rw [← hx] at h7
      exact h7
    apply hz
    rw [← h6, ← hf, List.getElem?_take, if_pos h5]
  · rw [if_neg h5, if_neg, if_pos]
    · have hne := turned_not_sealed ⟨(bodyLn l).toArray⟩ k z hk hz
      intro q
      exact hne ((sealed_iff (setB (toldLn l) k z) (by omega)).2 q)
    · simp only [ne_eq, Decidable.not_not]
      apply ext_list
      rw [hx, List.set_eq_of_length_le (by simp [magicM]; omega)]
      rfl

theorem dec_err (t : ByteArray) (k : Nat) (h : decR t = .error k) : k ≠ 0 := by
  unfold decR at h
  split at h
  · simp at h; omega
  split at h
  · simp at h; omega
  split at h
  · simp at h; omega
  · cases hp : progL (t.extract 5 (t.size - 4)) with
    | none => rw [hp] at h; simp [finL] at h; omega
    | some l => rw [hp] at h; simp [finL] at h

theorem back_set {w : World} {g cap : Nat} {s : ByteArray} {cur : Array Value} {f : Nat × Nat} (hcur : w.heap[g]? = some (.cells cur 5 f)) (hcell : ∀ (j x : Nat), (nums s)[j]? = some x → w.cell? ⟨g, j, none⟩ = some (.int .u8 (x : Nat))) (k : Nat) (z : UInt8) :
    (convert 33 9 (.slice (some ⟨g, 0, none⟩) s.size cap)).run Tryd.prog (w.setCell ⟨g, k, none⟩ (.int .u8 (z.toNat : Nat))) = .ok (.string (setB s k z)) (w.setCell ⟨g, k, none⟩ (.int .u8 (z.toNat : Nat))) := by
  have hl : (s.data.toList.set k z).length = s.size := by simp
  have := run_convert_bytes_back (P := Tryd.prog) (w.setCell ⟨g, k, none⟩ (.int .u8 (z.toNat : Nat))) 33 9 5 ⟨g, 0, none⟩ cap (s.data.toList.set k z) Tryd.underlying33 Tryd.underlying5 Tryd.underlying9 (fun j hj => by
    rw [Addr.add_lit, Nat.zero_add]
    have hj2 : j < s.size := by rw [hl] at hj; exact hj
    have hb := Go.Mine.heap_setCell_same (o := k) hcur (.int .u8 (z.toNat : Nat))
    refine cell_of hb j _ ?_
    have hn : (nums s)[j]? = some (s.data.toList[j]'(by simpa using hj2)).toNat := by
      unfold nums; rw [List.getElem?_map, List.getElem?_eq_getElem (by simpa using hj2)]; rfl
    have hc := hcell j _ hn
    simp only [World.cell?, hcur] at hc
    have hjc : j < cur.size := by
      have := (Array.getElem?_eq_some_iff.1 hc).1; exact this
    rw [Array.getElem?_setIfInBounds]
    by_cases hkj : k = j
    · subst hkj
      rw [if_pos rfl, if_pos hjc]
      simp
    · have hc2 : cur[j]? = some (.int .u8 ((s.data.toList[j]'(by simpa using hj2)).toNat : Nat)) := hc
      rw [if_neg hkj, hc2]
      simp [List.getElem_set, hkj])
  rw [hl] at this
  exact this
end Go.Proofs.YtfeljngmidhajaaDoor
