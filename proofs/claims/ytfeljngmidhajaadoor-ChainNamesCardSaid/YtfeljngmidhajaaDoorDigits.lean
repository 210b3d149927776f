/- A number's decimal numeral, read again. -/
import Derived.Lib.AtoiTie
import Derived.Lib.ItoaMem
import Derived.Lib.ItoaLen
namespace Go.Mine
open Go.Lib

theorem decFrom_snoc : ∀ (l : List UInt8) (acc n d : Nat) (b : UInt8), decFrom acc l = some n → digitVal b = some d → decFrom acc (l ++ [b]) = some (n * 10 + d)
  | [], acc, n, d, b, h, hd => by
    simp only [decFrom, Option.some.injEq] at h
    subst h
    simp [decFrom, hd]
  | c :: l, acc, n, d, b, h, hd => by
    simp only [decFrom, List.cons_append] at h ⊢
    cases hc : digitVal c with
    | none => simp [hc] at h
    | some e =>
      simp only [hc] at h ⊢
      exact decFrom_snoc l _ n d b h hd

theorem digitVal_of (i : Nat) (h : i < 10) : digitVal (UInt8.ofNat (48 + i)) = some i := by
  have : (UInt8.ofNat (48 + i)).toNat = 48 + i := by rw [UInt8.toNat_ofNat']; exact Nat.mod_eq_of_lt (by omega)
  unfold digitVal
  rw [this, if_pos (by omega)]
  simp

theorem decFrom_decDigits (u : Nat) : decFrom 0 (decDigits u) = some u := by
  induction u using Nat.strongRecOn with
  | _ u ih =>
    by_cases h : u < 10
    · rw [decDigits, dif_pos h]
      simp only [decFrom, digitVal_of u h]
      simp
    · rw [decDigits, dif_neg h, decFrom_snoc _ _ _ _ _ (ih (u / 10) (by omega)) (digitVal_of (u % 10) (by omega))]
      simp only [Option.some.injEq]
      omega

theorem nDigits_le : ∀ (k u : Nat), u < 10 ^ (k + 1) → nDigits u ≤ k + 1
  | 0, u, h => by rw [nDigits_small (by simpa using h)]; exact Nat.le_refl _
  | k + 1, u, h => by
    by_cases hu : u < 10
    · rw [nDigits_small hu]; omega
    · rw [nDigits_big hu]
      have := nDigits_le k (u / 10) (by rw [Nat.pow_succ] at h; omega)
      omega

theorem decDigits_ne (u : Nat) : decDigits u ≠ [] := by
  intro h
  have := decDigits_length u
  have h2 := nDigits_pos u
  rw [h] at this
  simp at this
  omega

theorem atoi_decDigits (u : Nat) : atoi (decDigits u) = some (u : Int) := by
  have h := decFrom_decDigits u
  have hn := decDigits_ne u
  generalize decDigits u = l at *
  cases l with
  | nil => exact absurd rfl hn
  | cons b r =>
    obtain ⟨d, hd⟩ := digit_of_decFrom (b :: r) 0 u h 0 b rfl
    obtain ⟨h1, h2, -⟩ := digitVal_eq hd
    have h45 : (b == 45) = false := by
      rw [beq_eq_false_iff_ne]
      intro q; rw [q] at h1; simp at h1
    have h43 : (b == 43) = false := by
      rw [beq_eq_false_iff_ne]
      intro q; rw [q] at h1; simp at h1
    unfold atoi
    simp only [h45, h43, Bool.false_eq_true, if_false, decNat, List.isEmpty_cons, h, Option.map_some]

theorem atoiAll_decDigits (u : Nat) (h : u ≤ 1073741824) : atoiAll (decDigits u) = .ok (u : Int) := by
  have hl : (decDigits u).length ≤ 10 := by
    rw [decDigits_length]
    exact nDigits_le 9 u (by omega)
  rw [atoiAll_short _ (by omega), atoi_decDigits]
  rfl
end Go.Mine
