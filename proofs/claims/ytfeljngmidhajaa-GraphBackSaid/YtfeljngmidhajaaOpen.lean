/- Opened: the walk; a text that ends with its sum. -/
import Derived.Test.YtfeljngmidhajaaRd
import Derived.Test.YtfeljngmidhajaaSeal
namespace Go.Proofs.Ytfeljngmidhajaa
open Go.RowKit Go.Mine

theorem ba_ne (m : ByteArray) (bs : List UInt8) (h : m ≠ ⟨bs.toArray⟩) : (m.toList == bs) = false := by
  rw [ByteArray.toList_eq]
  simp only [beq_eq_false_iff_ne, ne_eq]
  intro q
  exact h (by rw [← q])
theorem ba_ne2 (m k : ByteArray) (h : m ≠ k) : (m.toList == k.toList) = false := by
  rw [ByteArray.toList_eq, ByteArray.toList_eq]
  simp only [beq_eq_false_iff_ne, ne_eq]
  intro q
  exact h (ByteArray.ext (Array.toList_inj.1 q))

/-- the errors that come first -/
def openR (t m : ByteArray) : Nat :=
  if t.size < 10 then 2 else if t.extract 0 5 ≠ m then 3 else if sealed (t.extract 0 (t.size - 4)) ≠ t then 4 else 0

set_option maxRecDepth 100000 in
set_option maxHeartbeats 1000000 in
theorem opened_any (t m : ByteArray) (w : World) (hs : t.size ≤ 4611686018427387904) : Calls Try.prog 85 #[.string t, .string m] w fun e w' => e = .returned (.int .i64 (openR t m : Nat)) ∧ Turned (fun _ => False) w w' := by
  by_cases h2 : t.size < 10
  · have hd3 : decide ((t.size : Int) < 10) = true := by simp; omega
    have hd4 : decide (t.size < 10) = true := by simp; omega
    have HR : Hid (openR t m = 2) := by
      have : openR t m = 2 := by unfold openR; rw [if_pos h2]
      exact this
    rw [HR.out]
    clear hs h2
    go_enter Try.func85, Try.ntmps85
    go_wp2
    go_ret
    exact ⟨rfl, Turned.refl _ _⟩
  have hd3 : decide ((t.size : Int) < 10) = false := by simp; omega
  have hd4 : decide (t.size < 10) = false := by simp; omega
  have hw : wrap64 ((t.size : Int) - 4) = ((t.size - 4 : Nat) : Int) := by simp [wrap64]; omega
  have hsl1 : ∀ W, (Instr.slice 9 (.string t) none (some (.int .i64 5)) none).run Try.prog W = .ok (.string (t.extract 0 5)) W := fun W => by
    have := run_slice_string_h (P := Try.prog) W 9 t Try.underlying9 .i64 5 (by omega) (by omega)
    exact this
  by_cases h3 : t.extract 0 5 = m
  · rw [h3] at hsl1
    have hsl3 : ∀ W, (Instr.slice 9 (.string t) none (some (.int .i64 (wrap64 ((t.size : Int) - 4)))) none).run Try.prog W = .ok (.string (t.extract 0 (t.size - 4))) W := fun W => by
      rw [hw]
      have := run_slice_string_h (P := Try.prog) W 9 t Try.underlying9 .i64 ((t.size - 4 : Nat) : Int) (by omega) (by omega)
      rw [Int.toNat_natCast] at this
      exact this
    have z3 : (t.extract 0 (t.size - 4)).size ≤ 4611686018427387904 := by rw [ByteArray.size_extract]; omega
    have hse := sealed_any (t.extract 0 (t.size - 4)) w z3
    by_cases h4 : sealed (t.extract 0 (t.size - 4)) = t
    · have HR : Hid (openR t m = 0) := by
        have : openR t m = 0 := by unfold openR; rw [if_neg h2, if_neg (by simp [h3]), if_neg (by simp [h4])]
        exact this
      rw [HR.out]
      rw [h4] at hse
      generalize t.extract 0 (t.size - 4) = s3 at *
      clear hs h2 h3 h4 hw z3
      go_enter Try.func85, Try.ntmps85
      go_wp2_with (go_at_call 31; (with_reducible refine hse.mono ?_); rintro e w1 ⟨rfl, ht1⟩)
      go_ret
      exact ⟨rfl, ht1⟩
    · have HR : Hid (openR t m = 4) := by
        have : openR t m = 4 := by unfold openR; rw [if_neg h2, if_neg (by simp [h3]), if_pos h4]
        exact this
      rw [HR.out]
      have hne := ba_ne2 _ _ h4
      generalize sealed (t.extract 0 (t.size - 4)) = s4 at *
      generalize t.extract 0 (t.size - 4) = s3 at *
      clear hs h2 h3 h4 hw z3
      go_enter Try.func85, Try.ntmps85
      go_wp2_with (go_at_call 31; (with_reducible refine hse.mono ?_); rintro e w1 ⟨rfl, ht1⟩)
      go_ret
      exact ⟨rfl, ht1⟩
  · have HR : Hid (openR t m = 3) := by
      have : openR t m = 3 := by unfold openR; rw [if_neg h2, if_pos h3]
      exact this
    rw [HR.out]
    have hne := ba_ne2 _ _ h3
    generalize t.extract 0 5 = s3 at *
    clear hs h2 h3 hw
    go_enter Try.func85, Try.ntmps85
    go_wp2
    go_ret
    exact ⟨rfl, Turned.refl _ _⟩

theorem extract_split (t : ByteArray) (k : Nat) (_hk : k ≤ t.size) : t = t.extract 0 k ++ t.extract k t.size := by
  apply ByteArray.ext
  apply Array.toList_inj.1
  rw [ByteArray.data_append, Array.toList_append, toList_extract, toList_extract]
  have h : t.data.toList.length = t.size := by simp
  rw [List.drop_zero, Nat.sub_zero, List.take_of_length_le (l := t.data.toList.drop k) (by simp), List.take_append_drop]

/-- the sum stands at the end just if the last four bytes are read as it -/
theorem sealed_iff (t : ByteArray) (h : 4 ≤ t.size) : sealed (t.extract 0 (t.size - 4)) = t ↔ (rdNum (t.extract (t.size - 4) t.size) (0, 0) 4).1 = Crc.sum (nums (t.extract 0 (t.size - 4))) := by
  have h4 : (t.extract (t.size - 4) t.size).size = 4 := by rw [ByteArray.size_extract]; omega
  have hr : rdNum (t.extract (t.size - 4) t.size) (0, 0) 4 = (unnum (t.extract (t.size - 4) t.size).data.toList, (4, 0)) := by
    unfold rdNum
    rw [rdRaw_good _ 0 4 (by omega)]
    have : (t.extract (t.size - 4) t.size).extract 0 (0 + 4) = t.extract (t.size - 4) t.size := by
      apply ByteArray.ext
      apply Array.toList_inj.1
      rw [toList_extract, List.drop_zero, List.take_of_length_le]
      have : (t.extract (t.size - 4) t.size).data.toList.length = (t.extract (t.size - 4) t.size).size := by simp
      omega
    rw [this]
  rw [hr]
  have hc := crcsum_lt (t.extract 0 (t.size - 4))
  have hl : (t.extract (t.size - 4) t.size).data.toList.length = 4 := by
    have : (t.extract (t.size - 4) t.size).data.toList.length = (t.extract (t.size - 4) t.size).size := by simp
    omega
  have hsplit := extract_split t (t.size - 4) (by omega)
  have hse : sealed (t.extract 0 (t.size - 4)) = t.extract 0 (t.size - 4) ++ ⟨(num (Crc.sum (nums (t.extract 0 (t.size - 4)))) 4).toArray⟩ := rfl
  generalize Crc.sum (nums (t.extract 0 (t.size - 4))) = cs at *
  generalize t.extract 0 (t.size - 4) = pre at *
  generalize t.extract (t.size - 4) t.size = last at *
  rw [hse, hsplit]
  clear hse hsplit hr h
  simp only
  constructor
  · intro q
    have h1 := congrArg (fun b : ByteArray => b.data.toList) q
    simp only [ByteArray.data_append, Array.toList_append] at h1
    have h2 := List.append_cancel_left h1
    rw [← h2, unnum_num, Nat.mod_eq_of_lt (by omega)]
  · intro q
    have h1 := num_unnum last.data.toList
    rw [hl, q] at h1
    rw [h1]
end Go.Proofs.Ytfeljngmidhajaa
