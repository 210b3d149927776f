/- What is built is read as it was, in order. -/
import Derived.Test.YtfeljngmidhajaaParsed
import Derived.Test.YtfeljngmidhajaaTurnW
namespace Go.Proofs.Ytfeljngmidhajaa
open Go.RowKit Go.Mine

theorem built_sorted (l : List Ch) (h : buildErr l = 0) : Rising (sortCh l) ∧ (∀ c ∈ sortCh l, c.1 ≠ 0) ∧ built (sortCh l) = built l := by
  obtain ⟨b1, b2, b3⟩ := (buildErr_iff l).1 h
  obtain ⟨c1, c2⟩ := checkCh_ok l [] b2 (by simp)
  have hr := sortCh_rising l (by simpa using c1)
  refine ⟨hr, fun c hc => c2 c ((sortCh_perm l).mem_iff.1 hc), ?_⟩
  unfold built
  rw [sortCh_rise _ hr]

theorem parse_built (l : List Ch) (h : buildErr l = 0) (hs : Small l) : parseR (built l) = .ok (sortCh l) := by
  obtain ⟨b1, b2, b3⟩ := (buildErr_iff l).1 h
  obtain ⟨hr, h0, hb⟩ := built_sorted l h
  have hsz := built_size l
  have hin := inner_of_built (built l) (sortCh l) hr hb
  have hp := progT_of _ (sortCh l) hr h0 (by rw [sortCh_length]; exact b1) (fun c hc => by
    have hm := (sortCh_perm l).mem_iff.1 hc
    exact ⟨(hs c hm).1, by have := size_le_data l c hm; omega⟩) hin
  unfold parseR
  rw [if_neg (by omega), if_neg (by omega), if_neg, if_neg]
  · rw [hp]; rfl
  · simp only [ne_eq, Decidable.not_not]
    apply (sealed_iff (built l) (by omega)).1
    have : (built l).extract 0 ((built l).size - 4) = ⟨(bodyCh (sortCh l)).toArray⟩ := by
      apply ext_list
      have hss := sealed_size ⟨(bodyCh (sortCh l)).toArray⟩
      have he : (built l).size = (bodyCh (sortCh l)).length + 4 := by
        show (sealed ⟨(bodyCh (sortCh l)).toArray⟩).size = _
        rw [hss, ba_size]
      rw [toList_extract, List.drop_zero, Nat.sub_zero, he]
      unfold built sealed
      simp
    rw [this]
    rfl
  · simp only [ne_eq, Decidable.not_not]
    apply ext_list
    rw [toList_extract, List.drop_zero, Nat.sub_zero, built_front]
    rfl
end Go.Proofs.Ytfeljngmidhajaa
