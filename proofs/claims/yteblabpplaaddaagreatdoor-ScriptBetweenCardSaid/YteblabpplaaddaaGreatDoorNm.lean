/- A line's numbers: the walks of small and numbers. -/
import Derived.Test.YteblabpplaaddaaGreatDoorNu
import Derived.Deep.LoopGhost
set_option linter.unusedVariables false
set_option linter.unusedSimpArgs false
namespace Go.Proofs.YteblabpplaaddaaGreatDoor
open Go.RowKit Go.Mine Go.Mine.Sc

theorem number_some (w0 : World) (p : Nat) (s : B) (w : World) (hL : Lw w0 w) (hp : w0.heap.size ≤ p) (h : LineAt w p s) (hs : s.length ≤ 1000000) {n : Int} {r : B} (hq : pNum s = some (n, r)) :
    Calls Tryz.prog 52 #[pt p] w fun e w' => e = .returned (.int .i64 n) ∧ LineAt w' p r ∧ Turned (· = p) w w' := by
  have := number_any w0 p s w hL hp h hs
  rw [hq] at this
  exact this
theorem number_none (w0 : World) (p : Nat) (s : B) (w : World) (hL : Lw w0 w) (hp : w0.heap.size ≤ p) (h : LineAt w p s) (hs : s.length ≤ 1000000) (hq : pNum s = none) :
    Calls Tryz.prog 52 #[pt p] w fun e w' => e = .panicked [wrongE] ∧ Turned (· = p) w w' := by
  have := number_any w0 p s w hL hp h hs
  rw [hq] at this
  exact this
theorem pNum_i64 {s : B} {n : Int} {r : B} (h : pNum s = some (n, r)) : I64 n := by
  cases s with
  | nil => simp [pNum] at h
  | cons c t =>
    by_cases hc : c = 32
    · subst hc; exact (pNum_rNum h).2
    · simp [pNum, hc] at h

set_option maxRecDepth 100000 in
theorem small_some (w0 : World) (p : Nat) (s : B) (w : World) (hL : Lw w0 w) (hp : w0.heap.size ≤ p) (h : LineAt w p s) (hs : s.length ≤ 1000000) {n : Int} {r : B} (hq : pSmall s = some (n, r)) :
    Calls Tryz.prog 55 #[pt p] w fun e w' => e = .returned (.int .u32 n) ∧ LineAt w' p r ∧ Turned (· = p) w w' := by
  obtain ⟨h0, h1, h2⟩ := pSmall_num hq
  have hn := number_some w0 p s w hL hp h hs h0
  have d1 : decide (n < 0) = false := by simp; omega
  have d2 : decide ((4294967296 : Int) ≤ n) = false := by simp; omega
  have h3 : IntKind.u32.wrap n = n := Go.IntWalk.u32_in _ (by omega)
  clear h1 h2 h0 hq hL hp h hs
  go_enter Tryz.func55, Tryz.ntmps55
  go_wp2_with (go_at_call 52; (with_reducible refine hn.mono ?_); rintro e w1 ⟨rfl, hl, ht⟩)
  go_ret
  exact ⟨rfl, hl, ht⟩

set_option maxRecDepth 100000 in
theorem small_none (w0 : World) (p : Nat) (s : B) (w : World) (hL : Lw w0 w) (hp : w0.heap.size ≤ p) (h : LineAt w p s) (hs : s.length ≤ 1000000) (hq : pSmall s = none) :
    Calls Tryz.prog 55 #[pt p] w fun e w' => e = .panicked [wrongE] ∧ Turned (· = p) w w' := by
  cases h0 : pNum s with
  | none =>
    have hn := number_none w0 p s w hL hp h hs h0
    clear h0 hq hL hp h hs
    go_enter Tryz.func55, Tryz.ntmps55
    go_wp2_with (go_at_call 52; (with_reducible refine hn.mono ?_); rintro e w1 ⟨rfl, ht⟩)
    exact ⟨rfl, rfl, ht⟩
  | some q =>
    obtain ⟨n, r⟩ := q
    have hn := number_some w0 p s w hL hp h hs h0
    have hb : ¬ (0 ≤ n ∧ n < 4294967296) := by
      intro hb
      unfold pSmall at hq
      rw [h0] at hq
      simp only [] at hq
      rw [if_pos hb] at hq
      simp at hq
    by_cases h1 : n < 0
    · have d1 : decide (n < 0) = true := by simp; omega
      clear hb h0 hq hL hp h hs h1
      go_enter Tryz.func55, Tryz.ntmps55
      go_wp2_with (go_at_call 52; (with_reducible refine hn.mono ?_); rintro e w1 ⟨rfl, hl, ht⟩)
      exact ⟨rfl, rfl, ht⟩
    · have d1 : decide (n < 0) = false := by simp; omega
      have d2 : decide ((4294967296 : Int) ≤ n) = true := by simp; omega
      clear hb h0 hq hL hp h hs h1
      go_enter Tryz.func55, Tryz.ntmps55
      go_wp2_with (go_at_call 52; (with_reducible refine hn.mono ?_); rintro e w1 ⟨rfl, hl, ht⟩)
      exact ⟨rfl, rfl, ht⟩
end Go.Proofs.YteblabpplaaddaaGreatDoor
