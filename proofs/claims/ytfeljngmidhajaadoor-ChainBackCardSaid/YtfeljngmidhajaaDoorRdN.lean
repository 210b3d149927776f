/- The reader's numbers, and whether all was read. -/
import Derived.Test.YtfeljngmidhajaaDoorRd
import Derived.Laws.BitsAllLaws
namespace Go.Proofs.YtfeljngmidhajaaDoor
open Go.RowKit Go.Mine

def NumPost (w : World) (p : Nat) (s : ByteArray) (st : Nat × Nat) (n : Nat) (k : IntKind) (e : Ending) (w' : World) : Prop :=
  e = .returned (.tuple #[.int k ((rdNum s st n).1 : Nat), .int .i64 ((rdNum s st n).2.2 : Nat)]) ∧ RdIs w' p s (rdNum s st n).2 ∧ Turned (· = p) w w'

def FxRel (w1 : World) (b : ByteArray) (g : Nat) (v x i : Value) (wr : World) : Prop :=
  ∃ j : Nat, j + g = b.size ∧ i = .int .i64 j ∧ v = .int .u64 (unnum (b.data.toList.take j) : Nat) ∧ w1 = wr

theorem unnum_next (l : List UInt8) (j : Nat) (x : UInt8) (h : l[j]? = some x) : unnum (l.take (j + 1)) = unnum (l.take j) * 256 + x.toNat := by
  rw [List.take_add_one, h]
  simp [unnum]

theorem or_step (v x : Nat) (hv : v < 72057594037927936) (hx : x < 256) : bits .or .u64 (IntKind.u64.wrap ((v : Int) * 256)) (IntKind.u64.wrap (x : Int)) = ((v * 256 + x : Nat) : Int) := by
  have e1 : IntKind.u64.wrap ((v : Int) * 256) = ((v * 256 : Nat) : Int) := by simp [IntKind.wrap, IntKind.bits, IntKind.signed]; omega
  have e2 : IntKind.u64.wrap (x : Int) = (x : Int) := by simp [IntKind.wrap, IntKind.bits, IntKind.signed]; omega
  rw [e1, e2, u64_or_nat _ _ (by omega) (by omega)]
  have := Nat.two_pow_add_eq_or_of_lt (i := 8) (b := x) (by omega) v
  rw [show 2 ^ 8 * v = v * 256 by omega] at this
  rw [this]

set_option maxRecDepth 100000 in
set_option maxHeartbeats 1000000 in
theorem fixed_r {w : World} {p : Nat} {s : ByteArray} {st : Nat × Nat} (n : Nat) (h : RdIs w p s st) (hat : st.1 ≤ s.size) (hs : s.size ≤ 4611686018427387904) (hn : n ≤ 8) : Calls Tryd.prog 48 #[pt p, .int .i64 (n : Nat)] w (NumPost w p s st n .u64) := by
  have hr := raw_r n h hat hs (by omega)
  unfold NumPost rdNum
  unfold RawPost at hr
  have hz := rdRaw_size s st n
  obtain ⟨b, hb⟩ : ∃ b, b = (rdRaw s st n).1 := ⟨_, rfl⟩
  obtain ⟨st2, hst⟩ : ∃ q, q = (rdRaw s st n).2 := ⟨_, rfl⟩
  rw [← hb] at hr hz ⊢
  rw [← hst] at hr ⊢
  have HZ : Hid (b.size ≤ 8) := (by omega : b.size ≤ 8)
  clear h hat hs hn hb hst hz
  go_enter Tryd.func48, Tryd.ntmps48
  go_wp2_with (go_at_call 62; (with_reducible refine hr.mono ?_); rintro e w1 ⟨rfl, hrd, ht⟩; obtain ⟨cap2, w2, hconv, ht2, hlt2, hcap2, hcell, -, -⟩ := bytes_of w1 b; have F : Hid (∀ j x, (nums b)[j]? = some x → w2.cell? ⟨w1.heap.size, j, none⟩ = some (.int .u8 (x : Nat))) := hcell; have TT : Hid (RdIs w2 p s st2 ∧ Turned (· = p) w w2) := ⟨hrd.turned ht2 (fun q => q), ht.trans ht2 fun _ _ q => q.elim⟩; clear hcell hrd ht ht2; generalize w1.heap.size = g at hconv hlt2 F)
  go_loopg [8, 10, 20] b.size (fun g v x i wr => FxRel w2 b g v x i wr)
  case atStart => exact ⟨0, Nat.zero_add _, rfl, rfl, rfl⟩
  case round =>
    obtain ⟨j, hjg, rfl, rfl, rfl⟩ := hrel
    by_cases hlt : j < b.size
    · obtain ⟨y, hy⟩ : ∃ y, b.data.toList[j]? = some y := ⟨_, List.getElem?_eq_getElem (by simpa using hlt)⟩
      have hl := F.out j y.toNat (by simp [nums, hy])
      have hx := or_step (unnum (b.data.toList.take j)) y.toNat (by
        have h1 := unnum_lt (b.data.toList.take j)
        have h2 : (b.data.toList.take j).length ≤ 7 := by have := HZ.out; simp; omega
        exact Nat.lt_of_lt_of_le h1 (Nat.pow_le_pow_right (by decide) h2)) y.toNat_lt
      rw [← unnum_next _ _ _ hy] at hx
      have HX : Hid (bits .or .u64 (IntKind.u64.wrap (((unnum (b.data.toList.take j)) : Int) * 256)) (IntKind.u64.wrap (y.toNat : Int)) = _) := hx
      have HW : Hid (wrap64 ((j : Int) + 1) = ((j + 1 : Nat) : Int)) := (by have := HZ.out; simp [wrap64]; omega : wrap64 ((j : Int) + 1) = ((j + 1 : Nat) : Int))
      clear hx hy
      go_wp2
      go_roundg (gk - 1)
      case measure => omega
      case rel => exact ⟨j + 1, by omega, by rw [HW.out], by rw [HX.out], rfl⟩
    · have hj : j = b.size := by omega
      subst hj
      have HT : Hid (b.data.toList.take b.size = b.data.toList) := List.take_of_length_le (by simp)
      go_wp2
      go_ret2
      exact ⟨by rw [HT.out]; rfl, TT.out.1, TT.out.2⟩

set_option maxRecDepth 100000 in
theorem u8_r {w : World} {p : Nat} {s : ByteArray} {st : Nat × Nat} (h : RdIs w p s st) (hat : st.1 ≤ s.size) (hs : s.size ≤ 4611686018427387904) : Calls Tryd.prog 30 #[pt p] w (NumPost w p s st 1 .u8) := by
  have hr : Calls Tryd.prog 48 #[pt p, .int .i64 1] w (NumPost w p s st 1 .u64) := fixed_r 1 h hat hs (by omega)
  have hlt := rdNum_lt s st 1
  unfold NumPost at hr ⊢
  generalize rdNum s st 1 = q at *
  have hw : (q.1 : Int) % 256 = (q.1 : Int) := by omega
  have HW : Hid ((q.1 : Int) % 256 = (q.1 : Int)) := hw
  clear h hat hs hlt hw
  go_enter Tryd.func30, Tryd.ntmps30
  go_wp2_with (go_at_call 48; (with_reducible refine hr.mono ?_); rintro e w1 ⟨rfl, hrd, ht⟩)
  go_ret2
  exact ⟨by rw [HW.out]; rfl, hrd, ht⟩

set_option maxRecDepth 100000 in
theorem u32_r {w : World} {p : Nat} {s : ByteArray} {st : Nat × Nat} (h : RdIs w p s st) (hat : st.1 ≤ s.size) (hs : s.size ≤ 4611686018427387904) : Calls Tryd.prog 29 #[pt p] w (NumPost w p s st 4 .u32) := by
  have hr : Calls Tryd.prog 48 #[pt p, .int .i64 4] w (NumPost w p s st 4 .u64) := fixed_r 4 h hat hs (by omega)
  have hlt := rdNum_lt s st 4
  unfold NumPost at hr ⊢
  generalize rdNum s st 4 = q at *
  have hw : (q.1 : Int) % 4294967296 = (q.1 : Int) := by omega
  have HW : Hid ((q.1 : Int) % 4294967296 = (q.1 : Int)) := hw
  clear h hat hs hlt hw
  go_enter Tryd.func29, Tryd.ntmps29
  go_wp2_with (go_at_call 48; (with_reducible refine hr.mono ?_); rintro e w1 ⟨rfl, hrd, ht⟩)
  go_ret2
  exact ⟨by rw [HW.out]; rfl, hrd, ht⟩

set_option maxRecDepth 100000 in
theorem fail_bad {w : World} {p : Nat} {s : ByteArray} {a e : Nat} (h : RdIs w p s (a, e)) (he : e ≠ 0) (k : Nat) : Calls Tryd.prog 50 #[pt p, .int .i64 (k : Nat)] w fun x w' => x = .returned (.int .i64 (e : Nat)) ∧ w = w' := by
  have c2 := cell_of h 2 _ rfl
  have f2 := free_of h 2
  have hlt := lt_of_block h
  have hd : ((e : Int) == 0) = false := by simp; omega
  simp only [List.getElem_toArray, List.getElem_cons_zero, List.getElem_cons_succ] at c2
  clear h he
  go_enter Tryd.func50, Tryd.ntmps50
  go_wp2
  go_ret
  exact ⟨rfl, rfl⟩

set_option maxRecDepth 100000 in
/-- was all read, and well? 0: yes -/
theorem end_r {w : World} {p : Nat} {s : ByteArray} {st : Nat × Nat} (h : RdIs w p s st) (hat : st.1 ≤ s.size) (hs : s.size ≤ 4611686018427387904) :
    Calls Tryd.prog 31 #[pt p] w fun x w' => ∃ k : Nat, x = .returned (.int .i64 k) ∧ (k = 0 ↔ (st.2 = 0 ∧ s.size ≤ st.1)) ∧ Turned (· = p) w w' := by
  obtain ⟨a, e⟩ := st
  have hl := left_r h hat hs
  have he : Calls Tryd.prog 51 #[pt p] w.drew fun x w' => x = .returned (.int .i64 (e : Nat)) ∧ w.drew = w' := err_r (w := w.drew) h
  have hf := fail_r (w := w.drew) (p := p) (s := s) (a := a) (k := 3)
  have hb := fail_bad (w := w.drew) (p := p) (s := s) (a := a) (e := e) (k := 3)
  by_cases hz : s.size ≤ a
  · have hd : decide (0 < s.size - a) = false := by simp; omega
    have HZ : Hid (s.size ≤ a) := hz
    clear hf hb h hat hs hz
    go_enter Tryd.func31, Tryd.ntmps31
    go_wp2_with (first | (go_at_call 49; (with_reducible refine hl.mono ?_); rintro e w' ⟨rfl, rfl⟩) | (go_at_call 51; (with_reducible refine he.mono ?_); rintro e w' ⟨rfl, rfl⟩))
    go_ret
    exact ⟨e, rfl, ⟨fun q => ⟨q, HZ.out⟩, fun q => q.1⟩, Turned.drew _ _⟩
  · have hd : decide (0 < s.size - a) = true := by simp; omega
    have HZ : Hid (¬ s.size ≤ a) := hz
    by_cases h0 : e = 0
    · subst h0
      have hf2 : Calls Tryd.prog 50 #[pt p, .int .i64 3] w.drew _ := hf h
      clear hf hb h hat hs hz he
      go_enter Tryd.func31, Tryd.ntmps31
      go_wp2_with (first | (go_at_call 49; (with_reducible refine hl.mono ?_); rintro e w' ⟨rfl, rfl⟩) | (go_at_call 50; (with_reducible refine hf2.mono ?_); rintro e w' ⟨rfl, hr, ht⟩))
      go_ret
      exact ⟨3, rfl, ⟨fun q => by omega, fun q => absurd q.2 HZ.out⟩, (Turned.drew _ _).trans ht fun _ _ q => q⟩
    · have hf2 : Calls Tryd.prog 50 #[pt p, .int .i64 3] w.drew _ := hb h h0
      have H0 : Hid (e ≠ 0) := h0
      clear hf hb h hat hs hz he h0
      go_enter Tryd.func31, Tryd.ntmps31
      go_wp2_with (first | (go_at_call 49; (with_reducible refine hl.mono ?_); rintro e w' ⟨rfl, rfl⟩) | (go_at_call 50; (with_reducible refine hf2.mono ?_); rintro e w' ⟨rfl, rfl⟩))
      go_ret
      exact ⟨e, rfl, ⟨fun q => absurd q H0.out, fun q => absurd q.2 HZ.out⟩, Turned.drew _ _⟩
end Go.Proofs.YtfeljngmidhajaaDoor
