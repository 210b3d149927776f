/- Graph files: the document's example, and what it is told as. -/
import Derived.Test.YtfeljngmidhajaaGw15
namespace Go.Proofs.Ytfeljngmidhajaa
open Go.RowKit Go.Mine

def smallR0 : Rw := ⟨[], 0, 1, 0, ⟨#[]⟩⟩
def smallR1 : Rw := ⟨[0], 1, 2, 1, ⟨#[5]⟩⟩
def smallG : Gr := ⟨0, 3, 10, 9, 5, [smallR0, smallR1]⟩
def smallCells (p : Nat) : Array Value := #[.slice none 0 0, .int .i64 0, .int .i64 1, .int .i64 0, .string ⟨#[]⟩, .slice (some ⟨p, 0, none⟩) 1 1, .int .i64 1, .int .i64 2, .int .i64 1, .string ⟨#[5]⟩]

/-- the example's rows stand in the block c, the one list in the block p -/
theorem small_rows {w : World} {S : Nat → Prop} {c p : Nat} (hc : w.heap[c]? = some (.cells (smallCells p) 61 (0, 0))) (hp : w.heap[p]? = some (.cells #[.int .i64 0] 3 (0, 0))) (hS : S c ∧ S p) : RwIs w S (some ⟨c, 0, none⟩) 2 smallG.rows := by
  refine ⟨Nat.le_refl _, by simp [maxLen], fun r hr => ?_, fun _ => ⟨c, 0, rfl, hS.1, lt_of_block hc, fun i r hr => ?_⟩⟩
  · simp only [smallG, List.mem_cons, List.not_mem_nil, or_false] at hr
    rcases hr with rfl | rfl <;> exact ⟨by unfold I64; decide, by unfold I64; decide, by unfold I64; decide, by decide⟩
  · rcases i with _ | _ | i
    · obtain rfl := Option.some.inj hr
      exact ⟨none, 0, ⟨Nat.le_refl _, by simp [maxLen], by simp [smallR0], fun q => by simp [smallR0] at q⟩, cell_of hc 0 _ rfl, cell_of hc 1 _ rfl, cell_of hc 2 _ rfl, cell_of hc 3 _ rfl, cell_of hc 4 _ rfl⟩
    · obtain rfl := Option.some.inj hr
      refine ⟨some ⟨p, 0, none⟩, 1, ⟨Nat.le_refl _, by simp [maxLen], by simp [smallR1, I64], fun _ => ⟨p, 0, rfl, hS.2, lt_of_block hp, fun k x hx => ?_⟩⟩, cell_of hc 5 _ rfl, cell_of hc 6 _ rfl, cell_of hc 7 _ rfl, cell_of hc 8 _ rfl, cell_of hc 9 _ rfl⟩
      rcases k with _ | k
      · obtain rfl := Option.some.inj hx
        exact cell_of hp 0 _ rfl
      · simp [smallR1] at hx
    · simp [smallG] at hr

set_option maxRecDepth 100000 in
set_option maxHeartbeats 1000000 in
theorem small_any (w : World) : Calls Try.prog 36 #[] w fun e w' => ∃ c p, e = .returned (grv (some ⟨c, 0, none⟩) 2 smallG) ∧ w.heap.size ≤ c ∧ w.heap.size ≤ p ∧ p ≠ c ∧ w'.heap[c]? = some (.cells (smallCells p) 61 (0, 0)) ∧ w'.heap[p]? = some (.cells #[.int .i64 0] 3 (0, 0)) ∧ Turned (fun _ => False) w w' := by
  go_enter Try.func36, Try.ntmps36
  go_wp2
  have h1 := heap_alloc_last ((w.alloc (.cells #[.int .i64 0, .int .i64 3, .int .i64 10, .int .i64 9, .int .u32 5, .slice (some ⟨w.heap.size + 1 + 1, 0, none⟩) 2 2] 40)).alloc (.cells #[.int .i64 0] 3)) (.cells (smallCells (w.heap.size + 1)) 61)
  have h2 := Go.Mine.heap_alloc_old (o := .cells (smallCells (w.heap.size + 1)) 61) (heap_alloc_last (w.alloc (.cells #[.int .i64 0, .int .i64 3, .int .i64 10, .int .i64 9, .int .u32 5, .slice (some ⟨w.heap.size + 1 + 1, 0, none⟩) 2 2] 40)) (.cells #[.int .i64 0] 3))
  simp only [World.size_alloc] at h1 h2
  exact bodyPost_ret (v := .agg #[.int .i64 0, .int .i64 3, .int .i64 10, .int .i64 9, .int .u32 5, .slice (some ⟨w.heap.size + 1 + 1, 0, none⟩) 2 2]) (by simp [results, Try.results36, go_sem]) rfl ⟨w.heap.size + 1 + 1, w.heap.size + 1, rfl, by omega, by omega, by omega, h1, h2, (((Turned.refl _ _).new _).new _).new _⟩

theorem small_chunks : chunksG smallG = [(1, ⟨#[0, 0, 0, 0, 0, 0, 0, 2, 3, 10, 0, 9, 0, 0, 0, 5]⟩), (2, ⟨#[0, 0, 0, 0, 255, 255, 255, 255, 255, 255, 255, 255, 0, 1, 0, 0, 0, 0, 1, 0, 0, 0, 0, 255, 255, 255, 255, 0, 2, 1]⟩), (3, ⟨#[]⟩), (4, ⟨#[0, 0, 0, 0, 0, 0, 0, 1]⟩), (5, ⟨#[5]⟩)] := by
  decide
theorem small_good : goodG smallG := by
  refine ⟨by unfold goodN smallG; decide, by unfold goodS smallG; decide, fun i r hr => ?_⟩
  rcases i with _ | _ | i
  · obtain rfl := Option.some.inj hr
    exact ⟨by decide, by decide, by decide, by decide, by decide, fun i p hp => by simp [smallR0] at hp, by decide⟩
  · obtain rfl := Option.some.inj hr
    refine ⟨by decide, by decide, by decide, by decide, by decide, fun i p hp => ?_, by decide⟩
    rcases i with _ | i
    · obtain rfl := Option.some.inj hp
      exact ⟨by decide, by decide, by simp⟩
    · simp [smallR1] at hp
  · simp [smallG] at hr
theorem small_told : ∃ s, encG smallG = .tuple #[.string s, .int .i64 0] ∧ buildV (chunksG smallG) = .tuple #[.string s, .int .i64 0] := by
  have h1 : (tellT smallG.rows).B.length = 1 := by decide
  have h2 : buildErr (chunksG smallG) = 0 := by rw [small_chunks]; decide
  have h3 : buildV (chunksG smallG) = .tuple #[.string (built (chunksG smallG)), .int .i64 0] := by unfold buildV; rw [if_pos h2]
  refine ⟨_, ?_, h3⟩
  unfold encG
  rw [if_pos (grErr_yes small_good), if_neg (by rw [h1]; decide), h3]

set_option maxRecDepth 100000 in
set_option maxHeartbeats 1000000 in
theorem tells_any (w : World) : Calls Try.prog 22 #[] w fun e w' => e = .returned (.bool true) ∧ Turned (fun _ => False) w w' := by
  obtain ⟨s, hs1, hs2⟩ := small_told
  have hsm := small_any w
  have HE : Hid (∀ W c p, W.heap[c]? = some (.cells (smallCells p) 61 (0, 0)) → W.heap[p]? = some (.cells #[.int .i64 0] 3 (0, 0)) → Calls Try.prog 24 #[grv (some ⟨c, 0, none⟩) 2 smallG] W fun e w' => e = .returned (.tuple #[.string s, .int .i64 0]) ∧ Turned (fun _ => False) W w') := fun W c p h1 h2 => by
    have := encode_any (fun _ => True) (some ⟨c, 0, none⟩) 2 smallG W (small_rows h1 h2 ⟨trivial, trivial⟩) (by unfold GrOk I64 smallG; decide)
    rw [hs1] at this
    exact this
  have HB : Hid (∀ W : World, Calls Try.prog 18 #[.slice (some ⟨W.heap.size, 0, none⟩) 5 5] (W.alloc (.cells #[.int .u32 1, .string ⟨#[0, 0, 0, 0, 0, 0, 0, 2, 3, 10, 0, 9, 0, 0, 0, 5]⟩, .int .u32 2, .string ⟨#[0, 0, 0, 0, 255, 255, 255, 255, 255, 255, 255, 255, 0, 1, 0, 0, 0, 0, 1, 0, 0, 0, 0, 255, 255, 255, 255, 0, 2, 1]⟩, .int .u32 3, .string ⟨#[]⟩, .int .u32 4, .string ⟨#[0, 0, 0, 0, 0, 0, 0, 1]⟩, .int .u32 5, .string ⟨#[5]⟩] 31)) fun e w' => e = .returned (.tuple #[.string s, .int .i64 0]) ∧ Turned (fun _ => False) (W.alloc (.cells #[.int .u32 1, .string ⟨#[0, 0, 0, 0, 0, 0, 0, 2, 3, 10, 0, 9, 0, 0, 0, 5]⟩, .int .u32 2, .string ⟨#[0, 0, 0, 0, 255, 255, 255, 255, 255, 255, 255, 255, 0, 1, 0, 0, 0, 0, 1, 0, 0, 0, 0, 255, 255, 255, 255, 0, 2, 1]⟩, .int .u32 3, .string ⟨#[]⟩, .int .u32 4, .string ⟨#[0, 0, 0, 0, 0, 0, 0, 1]⟩, .int .u32 5, .string ⟨#[5]⟩] 31)) w') := fun W => by
    have := rbuild_any (some ⟨W.heap.size, 0, none⟩) 5 _ _ (chIs_five W ⟨#[0, 0, 0, 0, 0, 0, 0, 2, 3, 10, 0, 9, 0, 0, 0, 5]⟩ ⟨#[0, 0, 0, 0, 255, 255, 255, 255, 255, 255, 255, 255, 0, 1, 0, 0, 0, 0, 1, 0, 0, 0, 0, 255, 255, 255, 255, 0, 2, 1]⟩ ⟨#[]⟩ ⟨#[0, 0, 0, 0, 0, 0, 0, 1]⟩ ⟨#[5]⟩ (by decide))
    rw [← small_chunks, hs2] at this
    exact this
  clear hs1 hs2
  go_enter Try.func22, Try.ntmps22
  go_wp2_with (first
    | (go_at_call 36; (with_reducible refine hsm.mono ?_); rintro e w1 ⟨c, p, rfl, -, -, -, hc, hp, ht1⟩; have T1 : Hid (Turned (fun _ => False) w w1) := ht1; have he := HE.out w1 c p hc hp; clear hc hp ht1)
    | (go_at_call 24; (with_reducible refine he.mono ?_); rintro e w2 ⟨rfl, ht2⟩; have T2 : Hid (Turned (fun _ => False) w w2) := T1.out.trans ht2 (fun _ _ q => q); have hb := HB.out w2; clear ht2)
    | (go_at_call 18; (with_reducible refine hb.mono ?_); rintro e w3 ⟨rfl, ht3⟩; have T3 : Hid (Turned (fun _ => False) w w3) := (T2.out.new _).trans ht3 (fun _ _ q => q); clear ht3))
  go_ret
  exact ⟨rfl, T3.out⟩
end Go.Proofs.Ytfeljngmidhajaa
