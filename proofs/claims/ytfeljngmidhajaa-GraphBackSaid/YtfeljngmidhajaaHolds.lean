/- The document's first example is told as the document says. -/
import Derived.Test.YtfeljngmidhajaaRbuild
namespace Go.Proofs.Ytfeljngmidhajaa
open Go.RowKit Go.Mine

def ex1 : List Ch := [(7, ⟨#[97, 98]⟩), (3, ⟨#[]⟩)]
def ex1V : ByteArray := sealed ⟨#[80, 68, 71, 67, 1, 2, 0, 0, 0, 3, 0, 0, 0, 0, 0, 0, 0, 7, 0, 0, 0, 2, 97, 98]⟩

theorem built_ex1 : buildV ex1 = .tuple #[.string ex1V, .int .i64 0] := by
  have h1 : buildErr ex1 = 0 := by decide
  have h2 : bodyCh (sortCh ex1) = [80, 68, 71, 67, 1, 2, 0, 0, 0, 3, 0, 0, 0, 0, 0, 0, 0, 7, 0, 0, 0, 2, 97, 98] := by decide
  unfold buildV built
  rw [h1, h2]
  rfl

def exCells : Array Value := #[.int .u32 7, .string ⟨#[97, 98]⟩, .int .u32 3, .string ⟨#[]⟩]

set_option maxRecDepth 100000 in
set_option maxHeartbeats 1000000 in
theorem holds_any (w : World) : Calls Try.prog 15 #[] w fun e w' => e = .returned (.bool true) ∧ Turned (fun _ => False) w w' := by
  have hc : ChIs (w.alloc (.cells exCells 31)) (some ⟨w.heap.size, 0, none⟩) 2 ex1 := by
    refine ⟨Nat.le_refl _, by simp [maxLen], fun c hc => ?_, fun _ => ⟨w.heap.size, 0, rfl, by simp, fun i c hi => ?_⟩⟩
    · simp [ex1] at hc
      rcases hc with rfl | rfl <;> exact ⟨by decide, by decide⟩
    · have hb : ∀ k v, exCells[k]? = some v → (w.alloc (.cells exCells 31)).cell? ⟨w.heap.size, 0 + k, none⟩ = some v := fun k v hk => by
        rw [Nat.zero_add]; exact cell_of (heap_alloc_last w _) k v hk
      rcases i with _ | _ | i
      · simp [ex1] at hi; subst hi; exact ⟨hb 0 _ rfl, hb 1 _ rfl⟩
      · simp [ex1] at hi; subst hi; exact ⟨hb 2 _ rfl, hb 3 _ rfl⟩
      · simp [ex1] at hi
  have hb : Calls Try.prog 17 #[.slice (some ⟨w.heap.size, 0, none⟩) 2 2] (w.alloc (.cells exCells 31)) fun e w' => e = .returned (.tuple #[.string ex1V, .int .i64 0]) ∧ Turned (fun _ => False) (w.alloc (.cells exCells 31)) w' := by
    have := build_any _ 2 ex1 _ hc
    rw [built_ex1] at this
    exact this
  have hs := fun W => sealed_any ⟨#[80, 68, 71, 67, 1, 2, 0, 0, 0, 3, 0, 0, 0, 0, 0, 0, 0, 7, 0, 0, 0, 2, 97, 98]⟩ W (by simp [ByteArray.size])
  change ∀ W, Calls Try.prog 31 #[.string _] W fun e w' => e = .returned (.string ex1V) ∧ _ at hs
  generalize ex1V = V at *
  clear hc
  unfold exCells at hb
  go_enter Try.func15, Try.ntmps15
  go_wp2_with (first
    | (go_at_call 17; (with_reducible refine hb.mono ?_); rintro e w1 ⟨rfl, ht1⟩)
    | (go_at_call 31; (with_reducible refine (hs _).mono ?_); rintro e w2 ⟨rfl, ht2⟩))
  go_ret
  exact ⟨rfl, ((Turned.alloc _ _ _).trans ht1 fun _ _ q => q).trans ht2 fun _ _ q => q⟩
end Go.Proofs.Ytfeljngmidhajaa
