/- The reader: bytes and numbers read one behind the other. -/
import Derived.Test.YtfeljngmidhajaaRdp
import Derived.Test.YtfeljngmidhajaaPackX
namespace Go.Proofs.Ytfeljngmidhajaa
open Go.RowKit Go.Mine

/-- a reader of the text s at p, where and the first error being st -/
def RdIs (w : World) (p : Nat) (s : ByteArray) (st : Nat × Nat) : Prop :=
  Blk w p #[.string s, .int .i64 (st.1 : Nat), .int .i64 (st.2 : Nat)] 114
theorem RdIs.turned {w w' : World} {p : Nat} {s : ByteArray} {st : Nat × Nat} {S : Nat → Prop} (h : RdIs w p s st) (ht : Turned S w w') (hp : ¬ S p) : RdIs w' p s st := Blk.turned h ht hp

set_option maxRecDepth 100000 in
theorem newReader_any (s : ByteArray) (w : World) : Calls Try.prog 59 #[.string s] w fun e w' => e = .returned (pt w.heap.size) ∧ RdIs w' w.heap.size s (0, 0) ∧ Turned (fun _ => False) w w' ∧ w'.heap.size = w.heap.size + 1 := by
  go_enter Try.func59, Try.ntmps59
  go_wp2
  go_ret
  refine ⟨rfl, ?_, by simpa using Turned.alloc (fun _ => False) w _, by simp⟩
  exact heap_alloc_last w _

set_option maxRecDepth 100000 in
theorem err_r {w : World} {p : Nat} {s : ByteArray} {st : Nat × Nat} (h : RdIs w p s st) : Calls Try.prog 111 #[pt p] w fun x w' => x = .returned (.int .i64 (st.2 : Nat)) ∧ w = w' := by
  have c2 := cell_of h 2 _ rfl
  have hlt := lt_of_block h
  clear h
  go_enter Try.func111, Try.ntmps111
  go_wp2
  go_ret
  exact ⟨rfl, rfl⟩

theorem setErr {w : World} {p : Nat} {s : ByteArray} {a e : Nat} (h : RdIs w p s (a, e)) (k : Nat) : RdIs (w.setCell ⟨p, 2, none⟩ (.int .i64 (k : Nat))) p s (a, k) := by
  have := Go.Mine.heap_setCell_same (o := 2) h (.int .i64 (k : Nat))
  exact this

set_option maxRecDepth 100000 in
theorem fail_r {w : World} {p : Nat} {s : ByteArray} {a : Nat} (h : RdIs w p s (a, 0)) (k : Nat) : Calls Try.prog 112 #[pt p, .int .i64 (k : Nat)] w fun x w' => x = .returned (.int .i64 (k : Nat)) ∧ RdIs w' p s (a, k) ∧ Turned (· = p) w w' := by
  have H : Hid (RdIs w p s (a, 0)) := h
  have c2 := cell_of h 2 _ rfl
  have f2 := free_of h 2
  have hlt := lt_of_block h
  clear h
  go_enter Try.func112, Try.ntmps112
  go_wp2
  go_ret
  exact ⟨rfl, setErr H.out k, Turned.setCell (S := (· = p)) (p := ⟨p, 2, none⟩) rfl _⟩

set_option maxRecDepth 100000 in
theorem left_r {w : World} {p : Nat} {s : ByteArray} {st : Nat × Nat} (h : RdIs w p s st) (hat : st.1 ≤ s.size) (hs : s.size ≤ 4611686018427387904) : Calls Try.prog 113 #[pt p] w fun x w' => x = .returned (.int .i64 ((s.size - st.1 : Nat) : Int)) ∧ w' = w.drew := by
  have c0 := cell_of h 0 _ rfl
  have c1 := cell_of h 1 _ rfl
  have hlt := lt_of_block h
  have hw : wrap64 ((s.size : Int) - (st.1 : Int)) = ((s.size - st.1 : Nat) : Int) := by simp [wrap64]; omega
  have HW : Hid (wrap64 ((s.size : Int) - (st.1 : Int)) = ((s.size - st.1 : Nat) : Int)) := hw
  clear h hs hat hw
  go_enter Try.func113, Try.ntmps113
  go_wp2
  go_region
  all_goals go_wp2
  all_goals go_ret
  all_goals exact ⟨by rw [HW.out]; rfl, rfl⟩

def RawPost (w : World) (p : Nat) (s : ByteArray) (st : Nat × Nat) (n : Nat) (e : Ending) (w' : World) : Prop :=
  e = .returned (.tuple #[.string (rdRaw s st n).1, .int .i64 ((rdRaw s st n).2.2 : Nat)]) ∧ RdIs w' p s (rdRaw s st n).2 ∧ Turned (· = p) w w'

theorem setAt {w : World} {p : Nat} {s : ByteArray} {a e : Nat} (h : RdIs w p s (a, e)) (k : Nat) : RdIs (w.setCell ⟨p, 1, none⟩ (.int .i64 (k : Nat))) p s (k, e) := by
  have := Go.Mine.heap_setCell_same (o := 1) h (.int .i64 (k : Nat))
  exact this

set_option maxRecDepth 100000 in
set_option maxHeartbeats 1000000 in
theorem raw_r {w : World} {p : Nat} {s : ByteArray} {st : Nat × Nat} (n : Nat) (h : RdIs w p s st) (hat : st.1 ≤ s.size) (hs : s.size ≤ 4611686018427387904) (hn : n ≤ 4611686018427387904) : Calls Try.prog 83 #[pt p, .int .i64 (n : Nat)] w (RawPost w p s st n) := by
  obtain ⟨a, e⟩ := st
  have H : Hid (RdIs w p s (a, e)) := h
  have c0 := cell_of h 0 _ rfl
  have c1 := cell_of h 1 _ rfl
  have c2 := cell_of h 2 _ rfl
  have f1 := free_of h 1
  have hlt := lt_of_block h
  have he := err_r h
  have hl := left_r h hat hs
  have hf := fail_r (w := w.drew) (p := p) (s := s) (a := a) (k := 2)
  simp only [List.getElem_toArray, List.getElem_cons_zero, List.getElem_cons_succ] at c0 c1 c2 he hl
  by_cases h0 : e = 0
  · subst h0
    have hd0 : decide ((n : Int) < 0) = false := by simp
    by_cases h1 : a + n ≤ s.size
    · have E : Hid (rdRaw s (a, 0) n = (s.extract a (a + n), (a + n, 0))) := rdRaw_good s a n h1
      have hd : decide (((s.size - a : Nat) : Int) < (n : Int)) = false := by simp at hat ⊢; omega
      have hd1 : decide (s.size - a < n) = false := by simp at hat ⊢; omega
      have hw : wrap64 ((a : Int) + (n : Int)) = ((a + n : Nat) : Int) := by simp [wrap64]; omega
      have HW : Hid (wrap64 ((a : Int) + (n : Int)) = ((a + n : Nat) : Int)) := hw
      have hsl : ∀ W, (Instr.slice 9 (.string s) (some (.int .i64 (a : Nat))) (some (.int .i64 (wrap64 ((a : Int) + (n : Int))))) none).run Try.prog W = .ok (.string (s.extract a (a + n))) W := by
        intro W
        rw [hw]
        have := run_slice_string (P := Try.prog) W 9 s .i64 .i64 a ((a + n : Nat) : Int) Try.underlying9 (by omega) (by omega) (by omega)
        rw [Int.toNat_natCast, Int.toNat_natCast] at this
        exact this
      clear hf he h hs hn hat h1 hw
      go_enter Try.func83, Try.ntmps83
      go_wp2_with (go_at_call 113; (with_reducible refine hl.mono ?_); rintro e w' ⟨rfl, rfl⟩)
      go_region
      all_goals go_wp2
      all_goals go_ret2
      all_goals
        have hst : RdIs (w.setCell ⟨p, 1, none⟩ (.int .i64 (wrap64 ((a : Int) + (n : Int))))) p s (a + n, 0) := by rw [HW.out]; exact setAt H.out (a + n)
        refine ⟨by rw [E.out]; rfl, by rw [E.out]; exact hst, ?_⟩
        exact (((Turned.setCell (S := (· = p)) (p := ⟨p, 1, none⟩) rfl _).trans (Turned.drew _ _) fun _ _ q => q).trans (Turned.drew _ _) fun _ _ q => q)
    · have E : Hid (rdRaw s (a, 0) n = (⟨#[]⟩, (a, 2))) := rdRaw_short s a n (by omega)
      have hd : decide (((s.size - a : Nat) : Int) < (n : Int)) = true := by simp at hat ⊢; omega
      have hd1 : decide (s.size - a < n) = true := by simp at hat ⊢; omega
      have hf2 : Calls Try.prog 112 #[pt p, .int .i64 2] w.drew fun x w' => x = .returned (.int .i64 2) ∧ RdIs w' p s (a, 2) ∧ Turned (· = p) w.drew w' := hf h
      clear hf he h hs hn hat h1
      go_enter Try.func83, Try.ntmps83
      go_wp2_with (first | (go_at_call 113; (with_reducible refine hl.mono ?_); rintro e w' ⟨rfl, rfl⟩) | (go_at_call 112; (with_reducible refine hf2.mono ?_); rintro e w' ⟨rfl, hr, ht⟩))
      go_ret2
      exact ⟨by rw [E.out]; rfl, by rw [E.out]; exact hr, (Turned.drew _ _).trans ht fun _ _ q => q⟩
  · have E : Hid (rdRaw s (a, e) n = (⟨#[]⟩, (a, e))) := rdRaw_bad s _ n h0
    have hd : decide ((e : Int) = 0) = false := by simp; omega
    clear hf h hs hn hat hl
    go_enter Try.func83, Try.ntmps83
    go_wp2_with (go_at_call 111; (with_reducible refine he.mono ?_); rintro e w' ⟨rfl, rfl⟩)
    go_ret2
    exact ⟨by rw [E.out]; rfl, by rw [E.out]; exact H.out, Turned.refl _ _⟩
end Go.Proofs.Ytfeljngmidhajaa
