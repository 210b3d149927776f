/- slices.SortFunc on a copy of the chunks, with Build's own comparison. -/
import Derived.Test.YtfeljngmidhajaaSortedW
import Derived.Test.YtfeljngmidhajaaShelf
import Derived.Shelf.SlSortCmp.WholeK
namespace Go.Proofs.Ytfeljngmidhajaa
open Go.RowKit Go.Mine Go.Shelf Go.Sort

def encCh (c : Ch) : List Value := [.int .u32 (c.1 : Nat), .string c.2]

set_option maxRecDepth 100000 in
set_option maxHeartbeats 1000000 in
theorem closure41 (x y : Ch) (W : World) : Calls Try.prog 41 #[.agg (encCh x).toArray, .agg (encCh y).toArray] W fun e w' => e = .returned (.int .i64 (cmpV x.1 y.1)) ∧ ∃ q os', w' = grow (W.drewN q) os' := by
  have hcon := fun W' => compare_any x.1 y.1 W'
  generalize cmpV x.1 y.1 = r at hcon ⊢
  unfold encCh
  go_enter Try.func41, Try.ntmps41
  go_wp2_with (go_at_call 42; (with_reducible refine (hcon _).mono ?_); rintro e w' ⟨rfl, rfl⟩)
  go_ret
  exact ⟨rfl, 0, _, by rw [alloc_eq_grow, alloc_eq_grow, grow_grow]; rfl⟩
end Go.Proofs.Ytfeljngmidhajaa
