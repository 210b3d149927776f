/- The document's reader. -/
import Derived.Test.YtfeljngmidhajaaDoorRdN
namespace Go.Proofs.YtfeljngmidhajaaDoor
open Go.RowKit Go.Mine

/-- the document's reader of the text s at p -/
def RrIs (w : World) (p : Nat) (s : ByteArray) (st : Nat × Nat) : Prop :=
  Blk w p #[.string s, .int .i64 (st.1 : Nat), .int .i64 (st.2 : Nat)] 92
theorem RrIs.turned {w w' : World} {p : Nat} {s : ByteArray} {st : Nat × Nat} {S : Nat → Prop} (h : RrIs w p s st) (ht : Turned S w w') (hp : ¬ S p) : RrIs w' p s st := Blk.turned h ht hp

set_option maxRecDepth 100000 in
theorem rnew_any (s : ByteArray) (w : World) : Calls Tryd.prog 40 #[.string s] w fun e w' => e = .returned (pt w.heap.size) ∧ RrIs w' w.heap.size s (0, 0) ∧ Turned (fun _ => False) w w' ∧ w'.heap.size = w.heap.size + 1 := by
  go_enter Tryd.func40, Tryd.ntmps40
  go_wp2
  go_ret
  refine ⟨rfl, ?_, by simpa using Turned.alloc (fun _ => False) w _, by simp⟩
  exact heap_alloc_last w _

theorem rsetErr {w : World} {p : Nat} {s : ByteArray} {a e : Nat} (h : RrIs w p s (a, e)) (k : Nat) : RrIs (w.setCell ⟨p, 2, none⟩ (.int .i64 (k : Nat))) p s (a, k) := by
  have := Go.Mine.heap_setCell_same (o := 2) h (.int .i64 (k : Nat))
  exact this
theorem rsetAt {w : World} {p : Nat} {s : ByteArray} {a e : Nat} (h : RrIs w p s (a, e)) (k : Nat) : RrIs (w.setCell ⟨p, 1, none⟩ (.int .i64 (k : Nat))) p s (k, e) := by
  have := Go.Mine.heap_setCell_same (o := 1) h (.int .i64 (k : Nat))
  exact this

set_option maxRecDepth 100000 in
theorem rfail_r {w : World} {p : Nat} {s : ByteArray} {a e : Nat} (h : RrIs w p s (a, e)) (k : Nat) : Calls Tryd.prog 58 #[pt p, .int .i64 (k : Nat)] w fun x w' => x = .returned (.int .i64 (k : Nat)) ∧ RrIs w' p s (a, k) ∧ Turned (· = p) w w' := by
  have H : Hid (RrIs w p s (a, e)) := h
  have c2 := cell_of h 2 _ rfl
  have f2 := free_of h 2
  have hlt := lt_of_block h
  clear h
  go_enter Tryd.func58, Tryd.ntmps58
  go_wp2
  go_ret
  exact ⟨rfl, rsetErr H.out k, Turned.setCell (S := (· = p)) (p := ⟨p, 2, none⟩) rfl _⟩

set_option maxRecDepth 100000 in
theorem rleft_r {w : World} {p : Nat} {s : ByteArray} {st : Nat × Nat} (h : RrIs w p s st) (hat : st.1 ≤ s.size) (hs : s.size ≤ 4611686018427387904) : Calls Tryd.prog 57 #[pt p] w fun x w' => x = .returned (.int .i64 ((s.size - st.1 : Nat) : Int)) ∧ w' = w.drew := by
  have c0 := cell_of h 0 _ rfl
  have c1 := cell_of h 1 _ rfl
  have hlt := lt_of_block h
  have hw : wrap64 ((s.size : Int) - (st.1 : Int)) = ((s.size - st.1 : Nat) : Int) := by simp [wrap64]; omega
  have HW : Hid (wrap64 ((s.size : Int) - (st.1 : Int)) = ((s.size - st.1 : Nat) : Int)) := hw
  clear h hs hat hw
  go_enter Tryd.func57, Tryd.ntmps57
  go_wp2
  go_region
  all_goals go_wp2
  all_goals go_ret
  all_goals exact ⟨by rw [HW.out]; rfl, rfl⟩

def RfxRel (w1 : World) (s : ByteArray) (a n : Nat) (g : Nat) (v i : Value) (wr : World) : Prop :=
  ∃ j : Nat, j + g = n ∧ i = .int .i64 j ∧ v = .int .u64 (unnum ((s.data.toList.drop a).take j) : Nat) ∧ Turned (fun _ => False) w1 wr

set_option maxRecDepth 100000 in
set_option maxHeartbeats 1000000 in
theorem rnum_r {w : World} {p : Nat} {s : ByteArray} {st : Nat × Nat} (n : Nat) (h : RrIs w p s st) (hat : st.1 ≤ s.size) (hs : s.size ≤ 4611686018427387904) (hn : n ≤ 8) :
    Calls Tryd.prog 41 #[pt p, .int .i64 (n : Nat)] w fun e w' => e = .returned (.tuple #[.int .u64 ((rdNum s st n).1 : Nat), .int .i64 ((rdNum s st n).2.2 : Nat)]) ∧ RrIs w' p s (rdNum s st n).2 ∧ Turned (· = p) w w' := by
  obtain ⟨a, e⟩ := st
  have H : Hid (RrIs w p s (a, e)) := h
  have c0 := cell_of h 0 _ rfl
  have c1 := cell_of h 1 _ rfl
  have c2 := cell_of h 2 _ rfl
  have f1 := free_of h 1
  have hlt := lt_of_block h
  have hl := rleft_r h hat hs
  have hf := rfail_r (w := w.drew) (p := p) (s := s) (a := a) (e := e) (k := 2)
  simp only [List.getElem_toArray, List.getElem_cons_zero, List.getElem_cons_succ] at c0 c1 c2 hl
  by_cases h0 : e = 0
  · subst h0
    by_cases h1 : a + n ≤ s.size
    · have E : Hid (rdNum s (a, 0) n = (unnum ((s.data.toList.drop a).take n), (a + n, 0))) := by
        have e : rdNum s (a, 0) n = (unnum ((s.data.toList.drop a).take n), (a + n, 0)) := by
          unfold rdNum
          rw [rdRaw_good s a n h1]
          simp only [toList_extract, Nat.add_sub_cancel_left]
        exact e
      have hd : decide (((s.size - a : Nat) : Int) < (n : Int)) = false := by simp at hat ⊢; omega
      have hd1 : decide (s.size - a < n) = false := by simp at hat ⊢; omega
      have HB : Hid (a + n ≤ s.size ∧ n ≤ 8 ∧ s.size ≤ 4611686018427387904) := ⟨h1, hn, hs⟩
      clear hf h hs hn hat h1
      go_enter Tryd.func41, Tryd.ntmps41
      go_wp2_with (go_at_call 57; (with_reducible refine hl.mono ?_); rintro e w' ⟨rfl, rfl⟩)
      clear c0 c1 c2 f1
      go_loopg [6, 7] n (fun g v i wr => RfxRel w.drew s a n g v i wr)
      case atStart => exact ⟨0, Nat.zero_add _, rfl, rfl, Turned.refl _ _⟩
      case round =>
        obtain ⟨j, hjg, rfl, rfl, ht⟩ := hrel
        have T : Hid (Turned (fun _ => False) w.drew wr) := ht
        have hb : RrIs wr p s (a, 0) := RrIs.turned (w := w.drew) H.out ht fun q => q
        have c0 := cell_of hb 0 _ rfl
        have c1 := cell_of hb 1 _ rfl
        have c2 := cell_of hb 2 _ rfl
        have f1 := free_of hb 1
        have hlt := lt_of_block hb
        have B : Hid (RrIs wr p s (a, 0)) := hb
        simp only [List.getElem_toArray, List.getElem_cons_zero, List.getElem_cons_succ] at c0 c1 c2
        clear ht hb
        by_cases hjn : j < n
        · obtain ⟨y, hy⟩ : ∃ y, (s.data.toList.drop a)[j]? = some y := ⟨_, List.getElem?_eq_getElem (by have := HB.out; simp; omega)⟩
          have hidx : ∀ W, (Instr.index 9 (.string s) (.int .i64 (wrap64 ((a : Int) + (j : Int))))).run Tryd.prog W = .ok (.int .u8 (y.toNat : Nat)) W := by
            intro W
            have hb := HB.out
            rw [show wrap64 ((a : Int) + (j : Int)) = ((a + j : Nat) : Int) by simp [wrap64]; omega, run_index_string W 9 s .i64 _ Tryd.underlying9, dif_pos (by omega)]
            have hy2 : s.data.toList[a + j]? = some y := by rw [← hy, List.getElem?_drop]
            have hy3 : s[a + j]'(by omega) = y := by
              rw [Array.getElem?_toList] at hy2
              exact (Array.getElem?_eq_some_iff.1 hy2).2
            simp only [Int.toNat_natCast, hy3]
          have hx := unnum_next (s.data.toList.drop a) j y hy
          have hv : unnum ((s.data.toList.drop a).take j) < 72057594037927936 := by
            have h1 := unnum_lt ((s.data.toList.drop a).take j)
            have h2 : ((s.data.toList.drop a).take j).length ≤ 7 := by have := HB.out; simp; omega
            exact Nat.lt_of_lt_of_le h1 (Nat.pow_le_pow_right (by decide) h2)
          have HX : Hid (unnum ((s.data.toList.drop a).take (j + 1)) = unnum ((s.data.toList.drop a).take j) * 256 + y.toNat ∧ unnum ((s.data.toList.drop a).take j) < 72057594037927936 ∧ y.toNat < 256) := ⟨hx, hv, y.toNat_lt⟩
          clear hx hv hy
          generalize unnum ((s.data.toList.drop a).take j) = V at *
          generalize y.toNat = z at *
          go_wp2
          go_region
          all_goals go_wp2
          all_goals
            go_roundg (gk - 1)
            case measure => omega
            case rel =>
              have h1 := HB.out
              have h2 := HX.out
              have e2 : IntKind.u64.wrap (IntKind.u64.wrap ((V : Int) * 256) + IntKind.u64.wrap (z : Int)) = ((V * 256 + z : Nat) : Int) := by
                simp [IntKind.wrap, IntKind.bits, IntKind.signed]; omega
              refine ⟨j + 1, by omega, ?_, by rw [h2.1, e2], T.out.draw⟩
              rw [show wrap64 ((j : Int) + 1) = ((j + 1 : Nat) : Int) by simp [wrap64]; omega]
        · have hj : j = n := by omega
          subst hj
          have hw : wrap64 ((a : Int) + (j : Int)) = ((a + j : Nat) : Int) := by have := HB.out; simp [wrap64]; omega
          have HW : Hid (wrap64 ((a : Int) + (j : Int)) = ((a + j : Nat) : Int)) := hw
          clear hw
          go_wp2
          go_ret2
          have hst : RrIs (wr.setCell ⟨p, 1, none⟩ (.int .i64 (wrap64 ((a : Int) + (j : Int))))) p s (a + j, 0) := by rw [HW.out]; exact rsetAt B.out (a + j)
          refine ⟨by rw [E.out]; rfl, by rw [E.out]; exact hst, ?_⟩
          exact (((Turned.drew (· = p) w).trans (T.out.mono fun _ _ q => q.elim) fun _ _ q => q).trans (Turned.setCell (S := (· = p)) (p := ⟨p, 1, none⟩) rfl _) fun _ _ q => q)
    · have E : Hid (rdNum s (a, 0) n = (0, (a, 2))) := by
        unfold rdNum
        rw [rdRaw_short s a n (by omega)]
        rfl
      have hd : decide (((s.size - a : Nat) : Int) < (n : Int)) = true := by simp at hat ⊢; omega
      have hd1 : decide (s.size - a < n) = true := by simp at hat ⊢; omega
      have hf2 : Calls Tryd.prog 58 #[pt p, .int .i64 2] w.drew fun x w' => x = .returned (.int .i64 2) ∧ RrIs w' p s (a, 2) ∧ Turned (· = p) w.drew w' := hf h
      clear hf h hs hn hat h1
      go_enter Tryd.func41, Tryd.ntmps41
      go_wp2_with (first | (go_at_call 57; (with_reducible refine hl.mono ?_); rintro e w' ⟨rfl, rfl⟩) | (go_at_call 58; (with_reducible refine hf2.mono ?_); rintro e w' ⟨rfl, hr, ht⟩))
      go_ret2
      exact ⟨by rw [E.out]; rfl, by rw [E.out]; exact hr, (Turned.drew _ _).trans ht fun _ _ q => q⟩
  · have E : Hid (rdNum s (a, e) n = (0, (a, e))) := by
      unfold rdNum
      rw [rdRaw_bad s _ n h0]
      rfl
    have hd : ((e : Int) == 0) = false := by simp; omega
    clear hf h hs hn hat hl
    go_enter Tryd.func41, Tryd.ntmps41
    go_wp2
    go_region
    all_goals go_wp2
    all_goals go_ret2
    all_goals exact ⟨by rw [E.out]; rfl, by rw [E.out]; exact H.out, Turned.drew _ _⟩
end Go.Proofs.YtfeljngmidhajaaDoor
