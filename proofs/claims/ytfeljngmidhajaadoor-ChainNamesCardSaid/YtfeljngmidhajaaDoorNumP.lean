/- A name's number: the program's way and the document's give the same: plain. -/
import Derived.Test.YtfeljngmidhajaaDoorName
import Derived.Test.YtfeljngmidhajaaDoorDigits
import Derived.Test.YtfeljngmidhajaaDoorRdp
namespace Go.Proofs.YtfeljngmidhajaaDoor
open Go.RowKit Go.Mine

def prefBA : ByteArray := ⟨#[103, 114, 97, 112, 104, 45]⟩
/-- what Number answers -/
def progN (x : ByteArray) : Int × Bool :=
  if x.extract 0 6 = prefBA then
    match Lib.atoiAll (x.extract 6 x.size).data.toList with
    | .ok v => if nameS v = x then (v, true) else (0, false)
    | _ => (0, false)
  else (0, false)
/-- what the document's Number answers -/
def refN (x : ByteArray) : Int × Bool :=
  if x.size < 7 ∨ 16 < x.size then (0, false)
  else match Lib.decFrom 0 (x.data.toList.drop 6) with
    | none => (0, false)
    | some n => if nameS (n : Int) = x then ((n : Int), true) else (0, false)

theorem nameS_nat (n : Nat) (h : n ≤ 1073741824) : (nameS (n : Int)).data.toList = prefixB ++ Lib.decDigits n := by
  have : numb (n : Int) = true := by unfold numb; simp; omega
  unfold nameS
  rw [if_pos this, Lib.itoa_nonneg]
  rfl
theorem nameS_not (v : Int) (h : numb v = false) : nameS v = ⟨#[]⟩ := by
  unfold nameS
  rw [h]
  rfl
theorem numb_nat {v : Int} (h : numb v = true) : ∃ n : Nat, v = (n : Int) ∧ n ≤ 1073741824 := by
  unfold numb at h
  simp at h
  exact ⟨v.toNat, by omega, by omega⟩

theorem name_parts (n : Nat) (h : n ≤ 1073741824) : (nameS (n : Int)).size = 6 + Lib.nDigits n ∧ (nameS (n : Int)).extract 0 6 = prefBA ∧ ((nameS (n : Int)).extract 6 (nameS (n : Int)).size).data.toList = Lib.decDigits n ∧ (nameS (n : Int)).data.toList.drop 6 = Lib.decDigits n ∧ 1 ≤ Lib.nDigits n ∧ Lib.nDigits n ≤ 10 := by
  have hl := nameS_nat n h
  have hz : (nameS (n : Int)).size = 6 + Lib.nDigits n := by
    have : (nameS (n : Int)).data.toList.length = (nameS (n : Int)).size := by simp
    rw [← this, hl, List.length_append, Lib.decDigits_length]
    rfl
  have hd : (nameS (n : Int)).data.toList.drop 6 = Lib.decDigits n := by
    rw [hl, show (6 : Nat) = prefixB.length from rfl, List.drop_left]
  refine ⟨hz, ?_, ?_, hd, Lib.nDigits_pos n, nDigits_le 9 n (by omega)⟩
  · apply ByteArray.ext
    apply Array.toList_inj.1
    rw [toList_extract, List.drop_zero, hl, show 6 - 0 = prefixB.length from rfl, List.take_left]
    rfl
  · rw [toList_extract, hd, hz, List.take_of_length_le]
    rw [Lib.decDigits_length]; omega

theorem progN_name (n : Nat) (h : n ≤ 1073741824) : progN (nameS (n : Int)) = ((n : Int), true) := by
  obtain ⟨hz, h1, h2, h3, h4, h5⟩ := name_parts n h
  unfold progN
  rw [if_pos h1, h2, atoiAll_decDigits n h]
  simp
theorem refN_name (n : Nat) (h : n ≤ 1073741824) : refN (nameS (n : Int)) = ((n : Int), true) := by
  obtain ⟨hz, h1, h2, h3, h4, h5⟩ := name_parts n h
  unfold refN
  rw [if_neg (by omega), h3, decFrom_decDigits]
  simp

theorem no_name (x : ByteArray) (h : ¬ ∃ n : Nat, n ≤ 1073741824 ∧ nameS (n : Int) = x) (v : Int) (hv : nameS v = x) : x = ⟨#[]⟩ := by
  cases hb : numb v with
  | true =>
    obtain ⟨n, rfl, hn⟩ := numb_nat hb
    exact absurd ⟨n, hn, hv⟩ h
  | false => rw [← hv]; exact nameS_not v hb
theorem progN_not (x : ByteArray) (h : ¬ ∃ n : Nat, n ≤ 1073741824 ∧ nameS (n : Int) = x) : progN x = (0, false) := by
  unfold progN
  split
  · rename_i hp
    split
    · split
      · rename_i hv
        have := no_name x h _ hv
        subst this
        exact absurd hp (by decide)
      · rfl
    · rfl
  · rfl
theorem refN_not (x : ByteArray) (h : ¬ ∃ n : Nat, n ≤ 1073741824 ∧ nameS (n : Int) = x) : refN x = (0, false) := by
  unfold refN
  split
  · rfl
  · rename_i hz
    split
    · rfl
    · split
      · rename_i hv
        have := no_name x h _ hv
        subst this
        exact absurd (Or.inl (by decide)) hz
      · rfl

theorem num_same (x : ByteArray) : progN x = refN x := by
  by_cases h : ∃ n : Nat, n ≤ 1073741824 ∧ nameS (n : Int) = x
  · obtain ⟨n, hn, rfl⟩ := h
    rw [progN_name n hn, refN_name n hn]
  · rw [progN_not x h, refN_not x h]

theorem progN_of (n : Int) : progN (nameS n) = if numb n = true then (n, true) else (0, false) := by
  cases hb : numb n with
  | true =>
    obtain ⟨k, rfl, hk⟩ := numb_nat hb
    rw [progN_name k hk]
    rfl
  | false =>
    rw [nameS_not n hb]
    unfold progN
    rw [if_neg (by decide)]
    rfl
end Go.Proofs.YtfeljngmidhajaaDoor
