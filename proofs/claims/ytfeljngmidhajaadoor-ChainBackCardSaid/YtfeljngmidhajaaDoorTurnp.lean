/- A text that ends with its sum, one byte of it turned: its sum is no longer there. -/
import Derived.Test.YtfeljngmidhajaaDoorOpen
namespace Go.Proofs.YtfeljngmidhajaaDoor
open Go.RowKit Go.Mine

theorem ext_listT {a b : ByteArray} (h : a.data.toList = b.data.toList) : a = b := ByteArray.ext (Array.toList_inj.1 h)

/-- the text with byte k in the place of what was there -/
def setB (t : ByteArray) (k : Nat) (z : UInt8) : ByteArray := ⟨(t.data.toList.set k z).toArray⟩
theorem setB_size (t : ByteArray) (k : Nat) (z : UInt8) : (setB t k z).size = t.size := by
  show ((t.data.toList.set k z).toArray).size = t.data.size
  simp
theorem setB_list (t : ByteArray) (k : Nat) (z : UInt8) : (setB t k z).data.toList = t.data.toList.set k z := by simp [setB]

theorem turned_not_sealed (s : ByteArray) (k : Nat) (z : UInt8) (hk : k < (sealed s).size) (hz : (sealed s).data.toList[k]? ≠ some z) :
    sealed ((setB (sealed s) k z).extract 0 ((setB (sealed s) k z).size - 4)) ≠ setB (sealed s) k z := by
  intro h
  rw [setB_size] at h
  have hss := sealed_size s
  have hl : (sealed s).data.toList = s.data.toList ++ num (Crc.sum (nums s)) 4 := by unfold sealed; simp
  have hsl : s.data.toList.length = s.size := by simp
  have hfr : ((setB (sealed s) k z).extract 0 ((sealed s).size - 4)).data.toList = ((s.data.toList ++ num (Crc.sum (nums s)) 4).set k z).take s.size := by
    rw [toList_extract, List.drop_zero, Nat.sub_zero, setB_list, hl, hss]
    congr 1
  by_cases hks : k < s.size
  · -- ahead of the sum
    have hfr2 : ((setB (sealed s) k z).extract 0 ((sealed s).size - 4)).data.toList = s.data.toList.set k z := by
      rw [hfr, List.set_append_left _ _ (by omega), ← hsl]
      have : s.data.toList.length = (s.data.toList.set k z).length := by simp
      rw [this, List.take_left]
    obtain ⟨f, hf⟩ : ∃ f, f = (setB (sealed s) k z).extract 0 ((sealed s).size - 4) := ⟨_, rfl⟩
    rw [← hf] at h hfr2
    have h2 := congrArg (fun b : ByteArray => b.data.toList) h
    have hl2 : (sealed f).data.toList = f.data.toList ++ num (Crc.sum (nums f)) 4 := by unfold sealed; simp
    simp only [hl2, setB_list, hl] at h2
    rw [List.set_append_left _ _ (by omega), hfr2] at h2
    have h3 := List.append_cancel_left h2
    have h4 := num_inj h3
    have c1 := crcsum_lt f
    have c2 := crcsum_lt s
    rw [Nat.mod_eq_of_lt (by omega), Nat.mod_eq_of_lt (by omega)] at h4
    rw [crcsum_eq, crcsum_eq] at h4
    have f1 := feed_nums_lt 4294967295 f (by decide)
    have f2 := feed_nums_lt 4294967295 s (by decide)
    have h5 : Crc.feed 4294967295 (nums f) = Crc.feed 4294967295 (nums s) := by omega
    obtain ⟨x, hx⟩ : ∃ x, s.data.toList[k]? = some x := ⟨_, List.getElem?_eq_getElem (by omega)⟩
    have hxz : x ≠ z := by
      intro q
      apply hz
      rw [hl, List.getElem?_append_left (by omega), hx, q]
    have hsp : s.data.toList = s.data.toList.take k ++ x :: s.data.toList.drop (k + 1) := by
      have hi := List.getElem?_eq_some_iff.1 hx
      have := List.drop_eq_getElem_cons hi.1
      rw [hi.2] at this
      rw [← this, List.take_append_drop]
    have hsz : s.data.toList.set k z = s.data.toList.take k ++ z :: s.data.toList.drop (k + 1) := by
      rw [List.set_eq_take_append_cons_drop, if_pos (by omega)]
    have n1 : nums f = (s.data.toList.take k).map (·.toNat) ++ z.toNat :: (s.data.toList.drop (k + 1)).map (·.toNat) := by
      unfold nums; rw [hfr2, hsz]; simp
    have n2 : nums s = (s.data.toList.take k).map (·.toNat) ++ x.toNat :: (s.data.toList.drop (k + 1)).map (·.toNat) := by
      have := congrArg (List.map (·.toNat)) hsp
      rw [List.map_append, List.map_cons] at this
      exact this
    rw [n1, n2] at h5
    refine Crc.feed_turned 4294967295 _ _ z.toNat x.toNat (by decide) ?_ ?_ z.toNat_lt x.toNat_lt ?_ h5
    · intro b hb; obtain ⟨u, _, rfl⟩ := List.mem_map.1 hb; exact u.toNat_lt
    · intro b hb; obtain ⟨u, _, rfl⟩ := List.mem_map.1 hb; exact u.toNat_lt
    · intro q; exact hxz (UInt8.toNat_inj.1 q).symm
  · have hfr2 : ((setB (sealed s) k z).extract 0 ((sealed s).size - 4)) = s := by
      apply ext_listT
      rw [hfr, List.set_append_right _ _ (by omega), ← hsl, List.take_left]
    rw [hfr2] at h
    apply hz
    have h2 := congrArg (fun b : ByteArray => b.data.toList[k]?) h
    simp only [setB_list] at h2
    rw [h2, List.getElem?_set_self (by simpa using hk)]
end Go.Proofs.YtfeljngmidhajaaDoor
