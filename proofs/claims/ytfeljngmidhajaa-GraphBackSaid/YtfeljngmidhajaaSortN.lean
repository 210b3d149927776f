/- slices.SortFunc of chunks that are none, and of any. -/
import Derived.Test.YtfeljngmidhajaaSortG
namespace Go.Proofs.Ytfeljngmidhajaa
open Go.RowKit Go.Mine Go.Shelf Go.Sort

def NilRel (w : World) (_g : Nat) (i : Value) (wr : World) : Prop := i = .int .i64 1 ∧ w = wr
def NilRel2 (w : World) (_g : Nat) (a b : Value) (wr : World) : Prop := a = .int .i64 0 ∧ b = .int .i64 0 ∧ w = wr

set_option maxRecDepth 100000 in
set_option maxHeartbeats 1000000 in
theorem ins_nil (f : Value) (w : World) : Calls Try.prog 99 #[.slice none 0 0, .int .i64 0, .int .i64 0, f] w fun e w' => e = .returned (.tuple #[]) ∧ w = w' := by
  go_enter Try.func99, Try.ntmps99
  go_wp2
  go_loopg [8] 0 (fun g i wr => NilRel w g i wr)
  case atStart => exact ⟨rfl, rfl⟩
  case round =>
    obtain ⟨rfl, rfl⟩ := hrel
    go_wp2
    go_end0
    exact ⟨rfl, rfl⟩

set_option maxRecDepth 100000 in
set_option maxHeartbeats 1000000 in
theorem pdq_nil (k : Nat) (f : Value) (w : World) : Calls Try.prog 73 #[.slice none 0 0, .int .i64 0, .int .i64 0, .int .i64 k, f] w fun e w' => e = .returned (.tuple #[]) ∧ w = w' := by
  have hi := ins_nil f w
  go_enter Try.func73, Try.ntmps73
  go_wp2
  go_loopg [1, 2] 0 (fun g a b wr => NilRel2 w g a b wr)
  case atStart => exact ⟨rfl, rfl, rfl⟩
  case round =>
    obtain ⟨rfl, rfl, rfl⟩ := hrel
    go_wp2_with (go_at_call 99; (with_reducible refine hi.mono ?_); rintro e w' ⟨rfl, rfl⟩)
    refine bodyPost_ret (results_none rfl _ _ _) rfl ?_
    exact ⟨rfl, rfl⟩

set_option maxRecDepth 100000 in
set_option maxHeartbeats 1000000 in
theorem sortf_nil (f : Value) (w : World) : Calls Try.prog 40 #[.slice none 0 0, f] w fun e w' => e = .returned (.tuple #[]) ∧ w = w' := by
  have hl : Calls Try.prog 74 #[.int .u64 0] w _ := Any.bits_Len (SlLaysF0.n15.bits (P := Try.prog) (ρ := Try.sortCh_ren) { Try.sortCh with }) 0 w (by omega) (by omega)
  have hp := fun k => pdq_nil k f w
  generalize Lib.bitLen (0 : Int).toNat = k at *
  go_enter Try.func40, Try.ntmps40
  go_wp2_with (first | (go_at_call 74; (with_reducible refine hl.mono ?_); rintro e w' ⟨rfl, rfl⟩) | (go_at_call 73; (with_reducible refine (hp k).mono ?_); rintro e w' ⟨rfl, rfl⟩))
  go_end0
  exact ⟨rfl, rfl⟩

theorem sortf_any {w : World} {S : Nat → Prop} {v : Value} (l : List Ch) (h : Sl w S 31 2 v (ccells l) l.length) (hn : (l.map (·.1)).Nodup) (hl : l.length ≤ 100000) :
    Calls Try.prog 40 #[v, .func (.func 41) #[] #[]] w fun e w' => e = .returned (.tuple #[]) ∧ Sl w' S 31 2 v (ccells (sortCh l)) l.length ∧ Turned S w w' := by
  rcases h.2 with ⟨rfl, h0⟩ | ⟨g, off, cap, cur, rfl, hS, hg, hnc, hcm, hcs, ht⟩
  · have : l = [] := List.eq_nil_of_length_eq_zero h0
    subst this
    refine (sortf_nil _ w).mono ?_
    rintro e w' ⟨rfl, rfl⟩
    exact ⟨rfl, Sl.nil _ _ _ _, Turned.refl _ _⟩
  · exact sortf_some l hg hS hnc hcm hcs ht hn hl
end Go.Proofs.Ytfeljngmidhajaa
