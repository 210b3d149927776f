/- The sum of texts: the program's, by a table, and the document's, bit by bit. -/
import Derived.Test.YtfeljngmidhajaaRows
import Derived.Test.YtfeljngmidhajaaSl
import Derived.Test.YtfeljngmidhajaaCrc
import Derived.Test.YtfeljngmidhajaaNum
import Derived.Deep.LoopGhost
import Derived.Deep.MidRow
import Derived.Deep.WholeRow
import Derived.Laws.BitsAllLaws

namespace Go.Proofs.Ytfeljngmidhajaa
open Go.RowKit Go.Mine

theorem turn_any (c : Nat) (hc : c < 4294967296) (w : World) : Calls Try.prog 109 #[.int .u32 c] w fun e w' => e = .returned (.int .u32 (Crc.turn c : Nat)) ∧ w = w' := by
  have h1 : bits .and .u32 (c : Int) 1 = ((c % 2 : Nat) : Int) := by
    have := u32_and_nat c 1 hc (by decide)
    rw [Nat.and_one_is_mod] at this
    exact this
  have h2 : bits .xor .u32 ((c : Int) / 2) 3988292384 = (((c / 2) ^^^ 3988292384 : Nat) : Int) := by
    have := u32_xor_nat (c / 2) 3988292384 (by omega) (by decide)
    simpa using this
  have ht : Crc.turn c = if c % 2 = 1 then (c / 2) ^^^ 3988292384 else c / 2 := rfl
  rcases Nat.mod_two_eq_zero_or_one c with hm | hm
  · rw [hm] at h1
    have ht2 : Crc.turn c = c / 2 := by rw [ht, hm]; rfl
    rw [ht2]
    clear ht ht2 hm h2
    go_enter Try.func109, Try.ntmps109
    go_wp2
    go_ret
    exact ⟨rfl, rfl⟩
  · rw [hm] at h1
    have ht2 : Crc.turn c = (c / 2) ^^^ 3988292384 := by rw [ht, hm]; rfl
    rw [ht2]
    clear ht ht2 hm
    go_enter Try.func109, Try.ntmps109
    go_wp2
    go_ret
    exact ⟨rfl, rfl⟩

theorem turn_ref (c : Nat) (hc : c < 4294967296) (w : World) : Calls Try.prog 116 #[.int .u32 c] w fun e w' => e = .returned (.int .u32 (Crc.turn c : Nat)) ∧ w = w' := by
  have h1 : bits .and .u32 (c : Int) 1 = ((c % 2 : Nat) : Int) := by
    have := u32_and_nat c 1 hc (by decide)
    rw [Nat.and_one_is_mod] at this
    exact this
  have h2 : bits .xor .u32 ((c : Int) / 2) 3988292384 = (((c / 2) ^^^ 3988292384 : Nat) : Int) := by
    have := u32_xor_nat (c / 2) 3988292384 (by omega) (by decide)
    simpa using this
  have ht : Crc.turn c = if c % 2 = 1 then (c / 2) ^^^ 3988292384 else c / 2 := rfl
  rcases Nat.mod_two_eq_zero_or_one c with hm | hm
  · rw [hm] at h1
    have ht2 : Crc.turn c = c / 2 := by rw [ht, hm]; rfl
    rw [ht2]
    clear ht ht2 hm h2
    go_enter Try.func116, Try.ntmps116
    go_wp2
    go_ret
    exact ⟨rfl, rfl⟩
  · rw [hm] at h1
    have ht2 : Crc.turn c = (c / 2) ^^^ 3988292384 := by rw [ht, hm]; rfl
    rw [ht2]
    clear ht ht2 hm
    go_enter Try.func116, Try.ntmps116
    go_wp2
    go_ret
    exact ⟨rfl, rfl⟩

/-- the table, as far as n rows are laid -/
def tab (n : Nat) : Array Value := ((List.range 256).map fun j => Value.int .u32 (if j < n then ((Crc.turns 8 j : Nat) : Int) else 0)).toArray

theorem tab_size (n : Nat) : (tab n).size = 256 := by simp [tab]
theorem tab_get (n j : Nat) (h : j < 256) : (tab n)[j]? = some (.int .u32 (if j < n then ((Crc.turns 8 j : Nat) : Int) else 0)) := by
  simp [tab, h]
theorem tab_set (i : Nat) (h : i < 256) : (tab i).setIfInBounds i (.int .u32 (Crc.turns 8 i : Nat)) = tab (i + 1) := by
  apply Array.ext_getElem?
  intro j
  rw [Array.getElem?_setIfInBounds]
  by_cases hj : j < 256
  · rw [tab_get _ _ hj, tab_get _ _ hj, tab_size]
    by_cases hij : i = j
    · subst hij; simp [h]
    · rw [if_neg hij]
      have : (j < i) = (j < i + 1) := by apply propext; omega
      simp [this]
  · have h1 : (tab i)[j]? = none := by rw [Array.getElem?_eq_none]; rw [tab_size]; omega
    have h2 : (tab (i + 1))[j]? = none := by rw [Array.getElem?_eq_none]; rw [tab_size]; omega
    rw [h1, h2, if_neg (by omega)]
theorem tab_one (n : Nat) : (tab n).all (·.oneCell') = true := by
  rw [Array.all_eq_true]
  intro i hi
  simp [tab, Value.oneCell']

theorem zero107 : ∀ w, (zeroValue 107).run Try.prog w = .ok (.agg (tab 0)) w := (zero_of_info (n := 256) (by kernel_rfl)).1
theorem size107 : (Try.prog.info? 107).map (·.size) = some 256 := by kernel_rfl

end Go.Proofs.Ytfeljngmidhajaa
