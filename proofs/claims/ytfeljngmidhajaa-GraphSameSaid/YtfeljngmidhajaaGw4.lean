/- Graph files: the walks of the settings' checks. -/
import Derived.Test.YtfeljngmidhajaaGw3
namespace Go.Proofs.Ytfeljngmidhajaa
open Go.RowKit Go.Mine

def stErr (h p m : Int) : Nat := if 1 ≤ h ∧ h ≤ 16 ∧ 1 ≤ p ∧ p ≤ 64 ∧ 0 ≤ m ∧ m ≤ 512 then 0 else 1

set_option maxRecDepth 100000 in
theorem settings_any (h p m : Int) (seed : Nat) (w : World) :
    Calls Try.prog 56 #[.agg #[.int .i64 h, .int .i64 p, .int .i64 m, .int .u32 (seed : Nat)]] w fun e w' => e = .returned (.int .i64 (stErr h p m : Nat)) ∧ Turned (fun _ => False) w w' := by
  have no : ¬ (1 ≤ h ∧ h ≤ 16 ∧ 1 ≤ p ∧ p ≤ 64 ∧ 0 ≤ m ∧ m ≤ 512) → stErr h p m = 1 := fun q => by unfold stErr; rw [if_neg q]
  have yes : (1 ≤ h ∧ h ≤ 16 ∧ 1 ≤ p ∧ p ≤ 64 ∧ 0 ≤ m ∧ m ≤ 512) → stErr h p m = 0 := fun q => by unfold stErr; rw [if_pos q]
  by_cases h0 : h < 1
  · have HR : Hid (stErr h p m = 1) := no (by omega)
    have d0 : decide (h < 1) = true := decide_eq_true h0
    clear no yes h0
    generalize stErr h p m = R at *
    go_enter Try.func56, Try.ntmps56
    go_wp2
    go_ret
    exact ⟨by rw [HR.out]; rfl, Turned.alloc _ _ _⟩
  · have d0 : decide (h < 1) = false := decide_eq_false h0
    by_cases h1 : 16 < h
    · have HR : Hid (stErr h p m = 1) := no (by omega)
      have d1 : decide (16 < h) = true := decide_eq_true h1
      clear no yes h0 h1
      generalize stErr h p m = R at *
      go_enter Try.func56, Try.ntmps56
      go_wp2
      go_ret
      exact ⟨by rw [HR.out]; rfl, Turned.alloc _ _ _⟩
    · have d1 : decide (16 < h) = false := decide_eq_false h1
      by_cases h2 : p < 1
      · have HR : Hid (stErr h p m = 1) := no (by omega)
        have d2 : decide (p < 1) = true := decide_eq_true h2
        clear no yes h0 h1 h2
        generalize stErr h p m = R at *
        go_enter Try.func56, Try.ntmps56
        go_wp2
        go_ret
        exact ⟨by rw [HR.out]; rfl, Turned.alloc _ _ _⟩
      · have d2 : decide (p < 1) = false := decide_eq_false h2
        by_cases h3 : 64 < p
        · have HR : Hid (stErr h p m = 1) := no (by omega)
          have d3 : decide (64 < p) = true := decide_eq_true h3
          clear no yes h0 h1 h2 h3
          generalize stErr h p m = R at *
          go_enter Try.func56, Try.ntmps56
          go_wp2
          go_ret
          exact ⟨by rw [HR.out]; rfl, Turned.alloc _ _ _⟩
        · have d3 : decide (64 < p) = false := decide_eq_false h3
          by_cases h4 : m < 0
          · have HR : Hid (stErr h p m = 1) := no (by omega)
            have d4 : decide (m < 0) = true := decide_eq_true h4
            clear no yes h0 h1 h2 h3 h4
            generalize stErr h p m = R at *
            go_enter Try.func56, Try.ntmps56
            go_wp2
            go_ret
            exact ⟨by rw [HR.out]; rfl, Turned.alloc _ _ _⟩
          · have d4 : decide (m < 0) = false := decide_eq_false h4
            by_cases h5 : 512 < m
            · have HR : Hid (stErr h p m = 1) := no (by omega)
              have d5 : decide (512 < m) = true := decide_eq_true h5
              clear no yes h0 h1 h2 h3 h4 h5
              generalize stErr h p m = R at *
              go_enter Try.func56, Try.ntmps56
              go_wp2
              go_ret
              exact ⟨by rw [HR.out]; rfl, Turned.alloc _ _ _⟩
            · have d5 : decide (512 < m) = false := decide_eq_false h5
              have HR : Hid (stErr h p m = 0) := yes (by omega)
              clear no yes h0 h1 h2 h3 h4 h5
              generalize stErr h p m = R at *
              go_enter Try.func56, Try.ntmps56
              go_wp2
              go_ret
              exact ⟨by rw [HR.out]; rfl, Turned.alloc _ _ _⟩

set_option maxRecDepth 100000 in
theorem rsettings_any (h p m : Int) (seed : Nat) (w : World) :
    Calls Try.prog 57 #[.agg #[.int .i64 h, .int .i64 p, .int .i64 m, .int .u32 (seed : Nat)]] w fun e w' => e = .returned (.int .i64 (stErr h p m : Nat)) ∧ Turned (fun _ => False) w w' := by
  have no : ¬ (1 ≤ h ∧ h ≤ 16 ∧ 1 ≤ p ∧ p ≤ 64 ∧ 0 ≤ m ∧ m ≤ 512) → stErr h p m = 1 := fun q => by unfold stErr; rw [if_neg q]
  have yes : (1 ≤ h ∧ h ≤ 16 ∧ 1 ≤ p ∧ p ≤ 64 ∧ 0 ≤ m ∧ m ≤ 512) → stErr h p m = 0 := fun q => by unfold stErr; rw [if_pos q]
  by_cases h0 : h < 1
  · have HR : Hid (stErr h p m = 1) := no (by omega)
    have d0 : decide (h < 1) = true := decide_eq_true h0
    clear no yes h0
    generalize stErr h p m = R at *
    go_enter Try.func57, Try.ntmps57
    go_wp2
    go_ret
    exact ⟨by rw [HR.out]; rfl, Turned.alloc _ _ _⟩
  · have d0 : decide (h < 1) = false := decide_eq_false h0
    by_cases h1 : 16 < h
    · have HR : Hid (stErr h p m = 1) := no (by omega)
      have d1 : decide (16 < h) = true := decide_eq_true h1
      clear no yes h0 h1
      generalize stErr h p m = R at *
      go_enter Try.func57, Try.ntmps57
      go_wp2
      go_ret
      exact ⟨by rw [HR.out]; rfl, Turned.alloc _ _ _⟩
    · have d1 : decide (16 < h) = false := decide_eq_false h1
      by_cases h2 : p < 1
      · have HR : Hid (stErr h p m = 1) := no (by omega)
        have d2 : decide (p < 1) = true := decide_eq_true h2
        clear no yes h0 h1 h2
        generalize stErr h p m = R at *
        go_enter Try.func57, Try.ntmps57
        go_wp2
        go_ret
        exact ⟨by rw [HR.out]; rfl, Turned.alloc _ _ _⟩
      · have d2 : decide (p < 1) = false := decide_eq_false h2
        by_cases h3 : 64 < p
        · have HR : Hid (stErr h p m = 1) := no (by omega)
          have d3 : decide (64 < p) = true := decide_eq_true h3
          clear no yes h0 h1 h2 h3
          generalize stErr h p m = R at *
          go_enter Try.func57, Try.ntmps57
          go_wp2
          go_ret
          exact ⟨by rw [HR.out]; rfl, Turned.alloc _ _ _⟩
        · have d3 : decide (64 < p) = false := decide_eq_false h3
          by_cases h4 : m < 0
          · have HR : Hid (stErr h p m = 1) := no (by omega)
            have d4 : decide (m < 0) = true := decide_eq_true h4
            clear no yes h0 h1 h2 h3 h4
            generalize stErr h p m = R at *
            go_enter Try.func57, Try.ntmps57
            go_wp2
            go_ret
            exact ⟨by rw [HR.out]; rfl, Turned.alloc _ _ _⟩
          · have d4 : decide (m < 0) = false := decide_eq_false h4
            by_cases h5 : 512 < m
            · have HR : Hid (stErr h p m = 1) := no (by omega)
              have d5 : decide (512 < m) = true := decide_eq_true h5
              clear no yes h0 h1 h2 h3 h4 h5
              generalize stErr h p m = R at *
              go_enter Try.func57, Try.ntmps57
              go_wp2
              go_ret
              exact ⟨by rw [HR.out]; rfl, Turned.alloc _ _ _⟩
            · have d5 : decide (512 < m) = false := decide_eq_false h5
              have HR : Hid (stErr h p m = 0) := yes (by omega)
              clear no yes h0 h1 h2 h3 h4 h5
              generalize stErr h p m = R at *
              go_enter Try.func57, Try.ntmps57
              go_wp2
              go_ret
              exact ⟨by rw [HR.out]; rfl, Turned.alloc _ _ _⟩

end Go.Proofs.Ytfeljngmidhajaa
