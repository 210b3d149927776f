/- The document's reader: bytes. -/
import Derived.Test.YtfeljngmidhajaaRrd
namespace Go.Proofs.Ytfeljngmidhajaa
open Go.RowKit Go.Mine

def RrawPost (w : World) (p : Nat) (s : ByteArray) (st : Nat × Nat) (n : Nat) (e : Ending) (w' : World) : Prop :=
  e = .returned (.tuple #[.string (rdRaw s st n).1, .int .i64 ((rdRaw s st n).2.2 : Nat)]) ∧ RrIs w' p s (rdRaw s st n).2 ∧ Turned (· = p) w w'

set_option maxRecDepth 100000 in
set_option maxHeartbeats 1000000 in
theorem rraw_r {w : World} {p : Nat} {s : ByteArray} {st : Nat × Nat} (n : Nat) (h : RrIs w p s st) (hat : st.1 ≤ s.size) (hs : s.size ≤ 4611686018427387904) (hn : n ≤ 4611686018427387904) : Calls Try.prog 88 #[pt p, .int .i64 (n : Nat)] w (RrawPost w p s st n) := by
  obtain ⟨a, e⟩ := st
  have H : Hid (RrIs w p s (a, e)) := h
  have c0 := cell_of h 0 _ rfl
  have c1 := cell_of h 1 _ rfl
  have c2 := cell_of h 2 _ rfl
  have f1 := free_of h 1
  have hlt := lt_of_block h
  have hl := rleft_r h hat hs
  have hf := rfail_r (w := w.drew) (p := p) (s := s) (a := a) (e := e) (k := 2)
  simp only [List.getElem_toArray, List.getElem_cons_zero, List.getElem_cons_succ] at c0 c1 c2 hl
  by_cases h0 : e = 0
  · subst h0
    have hd0 : decide ((n : Int) < 0) = false := by simp
    by_cases h1 : a + n ≤ s.size
    · have E : Hid (rdRaw s (a, 0) n = (s.extract a (a + n), (a + n, 0))) := rdRaw_good s a n h1
      have hd : decide (((s.size - a : Nat) : Int) < (n : Int)) = false := by simp at hat ⊢; omega
      have hd1 : decide (s.size - a < n) = false := by simp at hat ⊢; omega
      have hw : wrap64 ((a : Int) + (n : Int)) = ((a + n : Nat) : Int) := by simp [wrap64]; omega
      have HW : Hid (wrap64 ((a : Int) + (n : Int)) = ((a + n : Nat) : Int)) := hw
      have hsl : ∀ W, (Instr.slice 9 (.string s) (some (.int .i64 (a : Nat))) (some (.int .i64 (wrap64 ((a : Int) + (n : Int))))) none).run Try.prog W = .ok (.string (s.extract a (a + n))) W := by
        intro W
        rw [hw]
        have := run_slice_string (P := Try.prog) W 9 s .i64 .i64 a ((a + n : Nat) : Int) Try.underlying9 (by omega) (by omega) (by omega)
        rw [Int.toNat_natCast, Int.toNat_natCast] at this
        exact this
      clear hf h hs hn hat h1 hw
      go_enter Try.func88, Try.ntmps88
      go_wp2_with (go_at_call 114; (with_reducible refine hl.mono ?_); rintro e w' ⟨rfl, rfl⟩)
      go_region
      all_goals go_wp2
      all_goals go_ret2
      all_goals
        have hst : RrIs (w.setCell ⟨p, 1, none⟩ (.int .i64 (wrap64 ((a : Int) + (n : Int))))) p s (a + n, 0) := by rw [HW.out]; exact rsetAt H.out (a + n)
        refine ⟨by rw [E.out]; rfl, by rw [E.out]; exact hst, ?_⟩
        exact (((Turned.setCell (S := (· = p)) (p := ⟨p, 1, none⟩) rfl _).trans (Turned.drew _ _) fun _ _ q => q).trans (Turned.drew _ _) fun _ _ q => q)
    · have E : Hid (rdRaw s (a, 0) n = (⟨#[]⟩, (a, 2))) := rdRaw_short s a n (by omega)
      have hd : decide (((s.size - a : Nat) : Int) < (n : Int)) = true := by simp at hat ⊢; omega
      have hd1 : decide (s.size - a < n) = true := by simp at hat ⊢; omega
      have hf2 : Calls Try.prog 115 #[pt p, .int .i64 2] w.drew fun x w' => x = .returned (.int .i64 2) ∧ RrIs w' p s (a, 2) ∧ Turned (· = p) w.drew w' := hf h
      clear hf h hs hn hat h1
      go_enter Try.func88, Try.ntmps88
      go_wp2_with (first | (go_at_call 114; (with_reducible refine hl.mono ?_); rintro e w' ⟨rfl, rfl⟩) | (go_at_call 115; (with_reducible refine hf2.mono ?_); rintro e w' ⟨rfl, hr, ht⟩))
      go_ret2
      exact ⟨by rw [E.out]; rfl, by rw [E.out]; exact hr, (Turned.drew _ _).trans ht fun _ _ q => q⟩
  · have E : Hid (rdRaw s (a, e) n = (⟨#[]⟩, (a, e))) := rdRaw_bad s _ n h0
    have hd : ((e : Int) == 0) = false := by simp; omega
    clear hf h hs hn hat hl
    go_enter Try.func88, Try.ntmps88
    go_wp2
    go_region
    all_goals go_wp2
    all_goals go_ret2
    all_goals exact ⟨by rw [E.out]; rfl, by rw [E.out]; exact H.out, Turned.drew _ _⟩

end Go.Proofs.Ytfeljngmidhajaa
