/- The document's reading: a digit, a number of 32 bits, a number at the front: the walks. -/
import Derived.Test.YteblabpplaaddaaGreatDoorTx
set_option linter.unusedVariables false
set_option linter.unusedSimpArgs false
namespace Go.Proofs.YteblabpplaaddaaGreatDoor
open Go.RowKit Go.Mine Go.Mine.Sc

/-- a digit of base sixteen, or -1 -/
def hexI (c : UInt8) : Int := match hexv c with | some v => (v.toNat : Int) | none => -1
theorem hexI_low {c : UInt8} (h1 : 48 ≤ c.toNat) (h2 : c.toNat ≤ 57) : hexI c = (c.toNat : Int) - 48 := by
  have a1 : (48 : UInt8) ≤ c := h1
  have a2 : c ≤ (57 : UInt8) := h2
  unfold hexI hexv
  rw [if_pos ⟨a1, a2⟩]
  show (((c - 48).toNat : Nat) : Int) = _
  rw [UInt8.toNat_sub_of_le _ _ a1]
  show ((c.toNat - 48 : Nat) : Int) = _
  omega
theorem hexI_high {c : UInt8} (h1 : 97 ≤ c.toNat) (h2 : c.toNat ≤ 102) : hexI c = (c.toNat : Int) - 87 := by
  have a1 : (97 : UInt8) ≤ c := h1
  have a2 : c ≤ (102 : UInt8) := h2
  have a3 : ¬ ((48 : UInt8) ≤ c ∧ c ≤ 57) := fun q => by have := q.2; have : c.toNat ≤ 57 := this; omega
  unfold hexI hexv
  rw [if_neg a3, if_pos ⟨a1, a2⟩]
  show (((c - 97 + 10).toNat : Nat) : Int) = _
  have e1 : (c - 97).toNat = c.toNat - 97 := UInt8.toNat_sub_of_le _ _ a1
  rw [UInt8.toNat_add, e1]
  show (((c.toNat - 97 + 10) % 256 : Nat) : Int) = _
  omega
theorem hexI_no {c : UInt8} (h1 : ¬ (48 ≤ c.toNat ∧ c.toNat ≤ 57)) (h2 : ¬ (97 ≤ c.toNat ∧ c.toNat ≤ 102)) : hexI c = -1 := by
  have a3 : ¬ ((48 : UInt8) ≤ c ∧ c ≤ 57) := h1
  have a4 : ¬ ((97 : UInt8) ≤ c ∧ c ≤ 102) := h2
  unfold hexI hexv
  rw [if_neg a3, if_neg a4]

set_option maxRecDepth 100000 in
theorem digit_any (c : UInt8) (w : World) : Calls Tryz.prog 103 #[.int .u8 (c.toNat : Nat)] w fun e w' => e = .returned (.int .i64 (hexI c)) ∧ w' = w := by
  by_cases h1 : 48 ≤ c.toNat
  · by_cases h2 : c.toNat ≤ 57
    · rw [hexI_low h1 h2]
      have d1 : decide ((48 : Int) ≤ (c.toNat : Int)) = true := by simp; omega
      have d2 : decide ((c.toNat : Int) ≤ 57) = true := by simp; omega
      have HB : Hid (48 ≤ c.toNat ∧ c.toNat ≤ 57) := ⟨h1, h2⟩
      generalize c.toNat = m at *
      clear h1 h2
      go_enter Tryz.func103, Tryz.ntmps103
      go_wp2
      go_ret
      refine ⟨?_, rfl⟩
      show Ending.returned (.int .i64 (((m : Int) - 48) % 256)) = _
      rw [show ((m : Int) - 48) % 256 = (m : Int) - 48 from by have := HB.out; omega]
    · by_cases h3 : 97 ≤ c.toNat
      · by_cases h4 : c.toNat ≤ 102
        · rw [hexI_high h3 h4]
          have d1 : decide ((48 : Int) ≤ (c.toNat : Int)) = true := by simp; omega
          have d2 : decide ((c.toNat : Int) ≤ 57) = false := by simp; omega
          have d3 : decide ((97 : Int) ≤ (c.toNat : Int)) = true := by simp; omega
          have d4 : decide ((c.toNat : Int) ≤ 102) = true := by simp; omega
          have HB : Hid (97 ≤ c.toNat ∧ c.toNat ≤ 102) := ⟨h3, h4⟩
          generalize c.toNat = m at *
          clear h1 h2 h3 h4
          go_enter Tryz.func103, Tryz.ntmps103
          go_wp2
          go_ret
          refine ⟨?_, rfl⟩
          show Ending.returned (.int .i64 (((m : Int) - 97) % 256 + 10)) = _
          rw [show ((m : Int) - 97) % 256 + 10 = (m : Int) - 87 from by have := HB.out; omega]
        · rw [hexI_no (by omega) (by omega)]
          have d1 : decide ((48 : Int) ≤ (c.toNat : Int)) = true := by simp; omega
          have d2 : decide ((c.toNat : Int) ≤ 57) = false := by simp; omega
          have d3 : decide ((97 : Int) ≤ (c.toNat : Int)) = true := by simp; omega
          have d4 : decide ((c.toNat : Int) ≤ 102) = false := by simp; omega
          generalize c.toNat = m at *
          clear h1 h2 h3 h4
          go_enter Tryz.func103, Tryz.ntmps103
          go_wp2
          go_ret
          exact ⟨rfl, rfl⟩
      · rw [hexI_no (by omega) (by omega)]
        have d1 : decide ((48 : Int) ≤ (c.toNat : Int)) = true := by simp; omega
        have d2 : decide ((c.toNat : Int) ≤ 57) = false := by simp; omega
        have d3 : decide ((97 : Int) ≤ (c.toNat : Int)) = false := by simp; omega
        generalize c.toNat = m at *
        clear h1 h2 h3
        go_enter Tryz.func103, Tryz.ntmps103
        go_wp2
        go_ret
        exact ⟨rfl, rfl⟩
  · rw [hexI_no (by omega) (by omega)]
    have d1 : decide ((48 : Int) ≤ (c.toNat : Int)) = false := by simp; omega
    have d3 : decide ((97 : Int) ≤ (c.toNat : Int)) = false := by simp; omega
    generalize c.toNat = m at *
    clear h1
    go_enter Tryz.func103, Tryz.ntmps103
    go_wp2
    go_ret
    exact ⟨rfl, rfl⟩

set_option maxRecDepth 100000 in
theorem fits_any (n : Int) (w : World) : Calls Tryz.prog 69 #[.int .i64 n] w fun e w' => e = .returned (.bool (decide (fitsN n))) ∧ w' = w := by
  by_cases h1 : 0 ≤ n
  · have d1 : decide ((0 : Int) ≤ n) = true := by simp; omega
    by_cases h2 : n < 4294967296
    · have d2 : decide (n < 4294967296) = true := by simp; omega
      rw [decide_eq_true (show fitsN n from ⟨h1, h2⟩)]
      clear h1 h2
      go_enter Tryz.func69, Tryz.ntmps69
      go_wp2
      go_ret
      exact ⟨rfl, rfl⟩
    · have d2 : decide (n < 4294967296) = false := by simp; omega
      rw [decide_eq_false (show ¬ fitsN n from fun q => h2 q.2)]
      clear h1 h2
      go_enter Tryz.func69, Tryz.ntmps69
      go_wp2
      go_ret
      exact ⟨rfl, rfl⟩
  · have d1 : decide ((0 : Int) ≤ n) = false := by simp; omega
    rw [decide_eq_false (show ¬ fitsN n from fun q => h1 q.1)]
    clear h1
    go_enter Tryz.func69, Tryz.ntmps69
    go_wp2
    go_ret
    exact ⟨rfl, rfl⟩
end Go.Proofs.YteblabpplaaddaaGreatDoor
