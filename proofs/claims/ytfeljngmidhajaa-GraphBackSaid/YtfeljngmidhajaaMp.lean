/- Containers read: readers, tables, Parse, the document's Parse -/
import Derived.Test.YtfeljngmidhajaaRd
import Derived.Laws.BitsAllLaws
import Derived.Test.YtfeljngmidhajaaUp
import Derived.Test.YtfeljngmidhajaaRdp
import Derived.Test.YtfeljngmidhajaaBspec
import Derived.Test.YtfeljngmidhajaaSortedW
import Derived.Test.YtfeljngmidhajaaOpen
import Derived.Test.YtfeljngmidhajaaRbuild
import Derived.Test.YtfeljngmidhajaaSame
import Derived.Test.YtfeljngmidhajaaHolds
namespace Go.Proofs.Ytfeljngmidhajaa
open Go.RowKit Go.Mine

def NumPost (w : World) (p : Nat) (s : ByteArray) (st : Nat × Nat) (n : Nat) (k : IntKind) (e : Ending) (w' : World) : Prop :=
  e = .returned (.tuple #[.int k ((rdNum s st n).1 : Nat), .int .i64 ((rdNum s st n).2.2 : Nat)]) ∧ RdIs w' p s (rdNum s st n).2 ∧ Turned (· = p) w w'

def FxRel (w1 : World) (b : ByteArray) (g : Nat) (v _x i : Value) (wr : World) : Prop :=
  ∃ j : Nat, j + g = b.size ∧ i = .int .i64 j ∧ v = .int .u64 (unnum (b.data.toList.take j) : Nat) ∧ w1 = wr

theorem unnum_next (l : List UInt8) (j : Nat) (x : UInt8) (h : l[j]? = some x) : unnum (l.take (j + 1)) = unnum (l.take j) * 256 + x.toNat := by
  rw [List.take_add_one, h]
  simp [unnum]

theorem or_step (v x : Nat) (hv : v < 72057594037927936) (hx : x < 256) : bits .or .u64 (IntKind.u64.wrap ((v : Int) * 256)) (IntKind.u64.wrap (x : Int)) = ((v * 256 + x : Nat) : Int) := by
  have e1 : IntKind.u64.wrap ((v : Int) * 256) = ((v * 256 : Nat) : Int) := by simp [IntKind.wrap, IntKind.bits, IntKind.signed]; omega
  have e2 : IntKind.u64.wrap (x : Int) = (x : Int) := by simp [IntKind.wrap, IntKind.bits, IntKind.signed]; omega
  rw [e1, e2, u64_or_nat _ _ (by omega) (by omega)]
  have := Nat.two_pow_add_eq_or_of_lt (i := 8) (b := x) (by omega) v
  rw [show 2 ^ 8 * v = v * 256 by omega] at this
  rw [this]

set_option maxRecDepth 100000 in
set_option maxHeartbeats 1000000 in
theorem fixed_r {w : World} {p : Nat} {s : ByteArray} {st : Nat × Nat} (n : Nat) (h : RdIs w p s st) (hat : st.1 ≤ s.size) (hs : s.size ≤ 4611686018427387904) (hn : n ≤ 8) : Calls Try.prog 81 #[pt p, .int .i64 (n : Nat)] w (NumPost w p s st n .u64) := by
  have hr := raw_r n h hat hs (by omega)
  unfold NumPost rdNum
  unfold RawPost at hr
  have hz := rdRaw_size s st n
  obtain ⟨b, hb⟩ : ∃ b, b = (rdRaw s st n).1 := ⟨_, rfl⟩
  obtain ⟨st2, hst⟩ : ∃ q, q = (rdRaw s st n).2 := ⟨_, rfl⟩
  rw [← hb] at hr hz ⊢
  rw [← hst] at hr ⊢
  have HZ : Hid (b.size ≤ 8) := (by omega : b.size ≤ 8)
  clear h hat hs hn hb hst hz
  go_enter Try.func81, Try.ntmps81
  go_wp2_with (go_at_call 83; (with_reducible refine hr.mono ?_); rintro e w1 ⟨rfl, hrd, ht⟩; obtain ⟨cap2, w2, hconv, ht2, hlt2, hcap2, hcell, -, -⟩ := bytes_of w1 b; have F : Hid (∀ j x, (nums b)[j]? = some x → w2.cell? ⟨w1.heap.size, j, none⟩ = some (.int .u8 (x : Nat))) := hcell; have TT : Hid (RdIs w2 p s st2 ∧ Turned (· = p) w w2) := ⟨hrd.turned ht2 (fun q => q), ht.trans ht2 fun _ _ q => q.elim⟩; clear hcell hrd ht ht2; generalize w1.heap.size = g at hconv hlt2 F)
  go_loopg [8, 10, 20] b.size (fun g v x i wr => FxRel w2 b g v x i wr)
  case atStart => exact ⟨0, Nat.zero_add _, rfl, rfl, rfl⟩
  case round =>
    obtain ⟨j, hjg, rfl, rfl, rfl⟩ := hrel
    by_cases hlt : j < b.size
    · obtain ⟨y, hy⟩ : ∃ y, b.data.toList[j]? = some y := ⟨_, List.getElem?_eq_getElem (by simpa using hlt)⟩
      have hl := F.out j y.toNat (by simp [nums, hy])
      have hx := or_step (unnum (b.data.toList.take j)) y.toNat (by
        have h1 := unnum_lt (b.data.toList.take j)
        have h2 : (b.data.toList.take j).length ≤ 7 := by have := HZ.out; simp; omega
        exact Nat.lt_of_lt_of_le h1 (Nat.pow_le_pow_right (by decide) h2)) y.toNat_lt
      rw [← unnum_next _ _ _ hy] at hx
      have HX : Hid (bits .or .u64 (IntKind.u64.wrap (((unnum (b.data.toList.take j)) : Int) * 256)) (IntKind.u64.wrap (y.toNat : Int)) = _) := hx
      have HW : Hid (wrap64 ((j : Int) + 1) = ((j + 1 : Nat) : Int)) := (by have := HZ.out; simp [wrap64]; omega : wrap64 ((j : Int) + 1) = ((j + 1 : Nat) : Int))
      clear hx hy
      go_wp2
      go_roundg (gk - 1)
      case measure => omega
      case rel => exact ⟨j + 1, by omega, by rw [HW.out], by rw [HX.out], rfl⟩
    · have hj : j = b.size := by omega
      subst hj
      have HT : Hid (b.data.toList.take b.size = b.data.toList) := List.take_of_length_le (by simp)
      go_wp2
      go_ret2
      exact ⟨by rw [HT.out]; rfl, TT.out.1, TT.out.2⟩

set_option maxRecDepth 100000 in
theorem u8_r {w : World} {p : Nat} {s : ByteArray} {st : Nat × Nat} (h : RdIs w p s st) (hat : st.1 ≤ s.size) (hs : s.size ≤ 4611686018427387904) : Calls Try.prog 82 #[pt p] w (NumPost w p s st 1 .u8) := by
  have hr : Calls Try.prog 81 #[pt p, .int .i64 1] w (NumPost w p s st 1 .u64) := fixed_r 1 h hat hs (by omega)
  have hlt := rdNum_lt s st 1
  unfold NumPost at hr ⊢
  generalize rdNum s st 1 = q at *
  have hw : (q.1 : Int) % 256 = (q.1 : Int) := by omega
  have HW : Hid ((q.1 : Int) % 256 = (q.1 : Int)) := hw
  clear h hat hs hlt hw
  go_enter Try.func82, Try.ntmps82
  go_wp2_with (go_at_call 81; (with_reducible refine hr.mono ?_); rintro e w1 ⟨rfl, hrd, ht⟩)
  go_ret2
  exact ⟨by rw [HW.out]; rfl, hrd, ht⟩

set_option maxRecDepth 100000 in
theorem u32_r {w : World} {p : Nat} {s : ByteArray} {st : Nat × Nat} (h : RdIs w p s st) (hat : st.1 ≤ s.size) (hs : s.size ≤ 4611686018427387904) : Calls Try.prog 60 #[pt p] w (NumPost w p s st 4 .u32) := by
  have hr : Calls Try.prog 81 #[pt p, .int .i64 4] w (NumPost w p s st 4 .u64) := fixed_r 4 h hat hs (by omega)
  have hlt := rdNum_lt s st 4
  unfold NumPost at hr ⊢
  generalize rdNum s st 4 = q at *
  have hw : (q.1 : Int) % 4294967296 = (q.1 : Int) := by omega
  have HW : Hid ((q.1 : Int) % 4294967296 = (q.1 : Int)) := hw
  clear h hat hs hlt hw
  go_enter Try.func60, Try.ntmps60
  go_wp2_with (go_at_call 81; (with_reducible refine hr.mono ?_); rintro e w1 ⟨rfl, hrd, ht⟩)
  go_ret2
  exact ⟨by rw [HW.out]; rfl, hrd, ht⟩

set_option maxRecDepth 100000 in
theorem fail_bad {w : World} {p : Nat} {s : ByteArray} {a e : Nat} (h : RdIs w p s (a, e)) (he : e ≠ 0) (k : Nat) : Calls Try.prog 112 #[pt p, .int .i64 (k : Nat)] w fun x w' => x = .returned (.int .i64 (e : Nat)) ∧ w = w' := by
  have c2 := cell_of h 2 _ rfl
  have f2 := free_of h 2
  have hlt := lt_of_block h
  have hd : ((e : Int) == 0) = false := by simp; omega
  simp only [List.getElem_toArray, List.getElem_cons_zero, List.getElem_cons_succ] at c2
  clear h he
  go_enter Try.func112, Try.ntmps112
  go_wp2
  go_ret
  exact ⟨rfl, rfl⟩

set_option maxRecDepth 100000 in
/-- was all read, and well? 0: yes -/
theorem end_r {w : World} {p : Nat} {s : ByteArray} {st : Nat × Nat} (h : RdIs w p s st) (hat : st.1 ≤ s.size) (hs : s.size ≤ 4611686018427387904) :
    Calls Try.prog 84 #[pt p] w fun x w' => ∃ k : Nat, x = .returned (.int .i64 k) ∧ (k = 0 ↔ (st.2 = 0 ∧ s.size ≤ st.1)) ∧ Turned (· = p) w w' := by
  obtain ⟨a, e⟩ := st
  have hl := left_r h hat hs
  have he : Calls Try.prog 111 #[pt p] w.drew fun x w' => x = .returned (.int .i64 (e : Nat)) ∧ w.drew = w' := err_r (w := w.drew) h
  have hf := fail_r (w := w.drew) (p := p) (s := s) (a := a) (k := 3)
  have hb := fail_bad (w := w.drew) (p := p) (s := s) (a := a) (e := e) (k := 3)
  by_cases hz : s.size ≤ a
  · have hd : decide (0 < s.size - a) = false := by simp; omega
    have HZ : Hid (s.size ≤ a) := hz
    clear hf hb h hat hs hz
    go_enter Try.func84, Try.ntmps84
    go_wp2_with (first | (go_at_call 113; (with_reducible refine hl.mono ?_); rintro e w' ⟨rfl, rfl⟩) | (go_at_call 111; (with_reducible refine he.mono ?_); rintro e w' ⟨rfl, rfl⟩))
    go_ret
    exact ⟨e, rfl, ⟨fun q => ⟨q, HZ.out⟩, fun q => q.1⟩, Turned.drew _ _⟩
  · have hd : decide (0 < s.size - a) = true := by simp; omega
    have HZ : Hid (¬ s.size ≤ a) := hz
    by_cases h0 : e = 0
    · subst h0
      have hf2 : Calls Try.prog 112 #[pt p, .int .i64 3] w.drew _ := hf h
      clear hf hb h hat hs hz he
      go_enter Try.func84, Try.ntmps84
      go_wp2_with (first | (go_at_call 113; (with_reducible refine hl.mono ?_); rintro e w' ⟨rfl, rfl⟩) | (go_at_call 112; (with_reducible refine hf2.mono ?_); rintro e w' ⟨rfl, hr, ht⟩))
      go_ret
      exact ⟨3, rfl, ⟨fun q => by omega, fun q => absurd q.2 HZ.out⟩, (Turned.drew _ _).trans ht fun _ _ q => q⟩
    · have hf2 : Calls Try.prog 112 #[pt p, .int .i64 3] w.drew _ := hb h h0
      have H0 : Hid (e ≠ 0) := h0
      clear hf hb h hat hs hz he h0
      go_enter Try.func84, Try.ntmps84
      go_wp2_with (first | (go_at_call 113; (with_reducible refine hl.mono ?_); rintro e w' ⟨rfl, rfl⟩) | (go_at_call 112; (with_reducible refine hf2.mono ?_); rintro e w' ⟨rfl, rfl⟩))
      go_ret
      exact ⟨e, rfl, ⟨fun q => absurd q H0.out, fun q => absurd q.2 HZ.out⟩, Turned.drew _ _⟩
end Go.Proofs.Ytfeljngmidhajaa

namespace Go.Mine

theorem Sl.bound {w : World} {S : Nat → Prop} {e : TypeId} {size : Nat} {v : Value} {xs : List Value} {n : Nat} (h : Sl w S e size v xs n) : Sl w (fun b => S b ∧ b < w.heap.size) e size v xs n := by
  refine ⟨h.1, ?_⟩
  rcases h.2 with h | ⟨g, off, cap, cur, h1, h2, h3, h4⟩
  · exact .inl h
  · exact .inr ⟨g, off, cap, cur, h1, ⟨h2, lt_of_block h3⟩, h3, h4⟩

theorem Sl.set {w : World} {S : Nat → Prop} {e : TypeId} {size : Nat} {g off cap : Nat} {xs : List Value} {n : Nat} (h : Sl w S e size (.slice (some ⟨g, off, none⟩) n cap) xs n) (j : Nat) (hj : j < n * size) (u : Value) :
    Sl (w.setCell ⟨g, off + j, none⟩ u) S e size (.slice (some ⟨g, off, none⟩) n cap) (xs.set j u) n ∧ Turned S w (w.setCell ⟨g, off + j, none⟩ u) ∧ (w.setCell ⟨g, off + j, none⟩ u).heap.size = w.heap.size := by
  rcases h.2 with ⟨hv, -⟩ | ⟨g2, off2, cap2, cur, hv, hS, hg, hnc, hcm, hcs, ht⟩
  · simp at hv
  · injection hv with e1 e2 e3
    injection e1 with e1
    injection e1 with e4 e5 e6
    subst e4; subst e5; subst e3
    have hmul : n * size ≤ cap * size := Nat.mul_le_mul_right _ hnc
    refine ⟨⟨by simpa using h.1, .inr ⟨g, off, cap, _, rfl, hS, Go.Mine.heap_setCell_same hg u, hnc, hcm, by simpa using hcs, ?_⟩⟩, Turned.setCell hS u, Go.Mine.setCell_size _ _ _⟩
    rw [Array.toList_setIfInBounds, ← ht]
    apply List.ext_getElem?
    intro k
    rw [List.getElem?_take, List.getElem?_drop, List.getElem?_set, List.getElem?_set, List.getElem?_take, List.getElem?_drop]
    have hlen : (List.take (n * size) (List.drop off cur.toList)).length = n * size := by rw [ht]; exact h.1
    by_cases hk : k < n * size
    · rw [if_pos hk, if_pos hk]
      by_cases hkj : j = k
      · subst hkj
        rw [if_pos rfl, if_pos rfl, if_pos (by simp; omega), if_pos (by rw [hlen]; exact hk)]
      · rw [if_neg (by omega), if_neg hkj]
    · rw [if_neg hk, if_neg hk, if_neg (by omega)]
end Go.Mine

namespace Go.Proofs.Ytfeljngmidhajaa
open Go.RowKit Go.Mine

theorem snocInd {α : Type} {p : List α → Prop} (h0 : p []) (h1 : ∀ l x, p l → p (l ++ [x])) (l : List α) : p l := by
  have : ∀ l : List α, p l.reverse := by
    intro l
    induction l with
    | nil => exact h0
    | cons x l ih => rw [List.reverse_cons]; exact h1 _ _ ih
  have h := this l.reverse
  rwa [List.reverse_reverse] at h

/-- IDs and sizes as bytes -/
def tableIx : List (Nat × Nat) → List UInt8
  | [] => []
  | e :: t => num e.1 4 ++ num e.2 4 ++ tableIx t
theorem tableIx_append (a b : List (Nat × Nat)) : tableIx (a ++ b) = tableIx a ++ tableIx b := by
  induction a with
  | nil => rfl
  | cons c a ih => simp [tableIx, ih]
theorem tableIx_length (t : List (Nat × Nat)) : (tableIx t).length = 8 * t.length := by
  induction t with
  | nil => rfl
  | cons c l ih => simp [tableIx, ih, num_length]; omega
def ixOf (l : List Ch) : List (Nat × Nat) := l.map fun c => (c.1, c.2.size)
theorem tableCh_ix (l : List Ch) : tableCh l = tableIx (ixOf l) := by
  induction l with
  | nil => rfl
  | cons c l ih => simp [tableCh, ixOf, tableIx, ih]
def sizes (t : List (Nat × Nat)) : Nat := (t.map (·.2)).sum
theorem sizes_ix (l : List Ch) : sizes (ixOf l) = dataSize l := by
  induction l with
  | nil => rfl
  | cons c l ih => simp [sizes, ixOf, dataSize] at ih ⊢; omega

/-- k rows of the table -/
def tabK (s : ByteArray) (st : Nat × Nat) : Nat → List (Nat × Nat) × (Nat × Nat)
  | 0 => ([], st)
  | k + 1 => ((tabK s st k).1 ++ [((rdNum s (tabK s st k).2 4).1, (rdNum s (rdNum s (tabK s st k).2 4).2 4).1)], (rdNum s (rdNum s (tabK s st k).2 4).2 4).2)
/-- one row's data -/
def datStep (s : ByteArray) (q : List Ch × (Nat × Nat)) (e : Nat × Nat) : List Ch × (Nat × Nat) := (q.1 ++ [(e.1, (rdRaw s q.2 e.2).1)], (rdRaw s q.2 e.2).2)
/-- the rows' data -/
def dat (s : ByteArray) (st : Nat × Nat) (t : List (Nat × Nat)) : List Ch × (Nat × Nat) := t.foldl (datStep s) ([], st)
theorem dat_snoc (s : ByteArray) (st : Nat × Nat) (t : List (Nat × Nat)) (e : Nat × Nat) : dat s st (t ++ [e]) = datStep s (dat s st t) e := by simp [dat]
theorem dat_take (s : ByteArray) (st : Nat × Nat) (t : List (Nat × Nat)) (j : Nat) (e : Nat × Nat) (h : t[j]? = some e) : dat s st (t.take (j + 1)) = datStep s (dat s st (t.take j)) e := by
  rw [List.take_add_one, h]
  exact dat_snoc s st _ e

theorem tabK_length (s : ByteArray) (st : Nat × Nat) (k : Nat) : (tabK s st k).1.length = k := by
  induction k with
  | zero => rfl
  | succ k ih => simp [tabK, ih]
theorem tabK_take (s : ByteArray) (st : Nat × Nat) (n k : Nat) (h : k ≤ n) : (tabK s st n).1.take k = (tabK s st k).1 := by
  induction n with
  | zero =>
    obtain rfl : k = 0 := by omega
    rfl
  | succ n ih =>
    rcases Nat.lt_or_ge n k with hk | hk
    · obtain rfl : k = n + 1 := by omega
      exact List.take_of_length_le (by rw [tabK_length]; exact Nat.le_refl _)
    · rw [tabK, List.take_append_of_le_length (by rw [tabK_length]; exact hk)]
      exact ih hk
theorem rdNum_at (s : ByteArray) (st : Nat × Nat) (n : Nat) (h : st.1 ≤ s.size) : (rdNum s st n).2.1 ≤ s.size := rdRaw_at s st n h
theorem tabK_at (s : ByteArray) (st : Nat × Nat) (k : Nat) (h : st.1 ≤ s.size) : (tabK s st k).2.1 ≤ s.size := by
  induction k with
  | zero => exact h
  | succ k ih => exact rdNum_at _ _ _ (rdNum_at _ _ _ ih)
theorem tabK_err (s : ByteArray) (st : Nat × Nat) (k : Nat) (h : st.2 = 0 ∨ st.2 = 2) : (tabK s st k).2.2 = 0 ∨ (tabK s st k).2.2 = 2 := by
  induction k with
  | zero => exact h
  | succ k ih => exact rdRaw_err _ _ _ (rdRaw_err _ _ _ ih)
theorem tabK_lt (s : ByteArray) (st : Nat × Nat) (k : Nat) : ∀ e ∈ (tabK s st k).1, e.1 < 4294967296 ∧ e.2 < 4294967296 := by
  induction k with
  | zero => intro e h; simp [tabK] at h
  | succ k ih =>
    intro e h
    rw [tabK, List.mem_append] at h
    rcases h with h | h
    · exact ih e h
    · rw [List.mem_singleton] at h
      subst h
      exact ⟨rdNum_lt _ _ 4, rdNum_lt _ _ 4⟩
theorem dat_length (s : ByteArray) (st : Nat × Nat) (t : List (Nat × Nat)) : (dat s st t).1.length = t.length := by
  induction t using snocInd with
  | h0 => rfl
  | h1 t e ih => rw [dat_snoc]; simp [datStep, ih]
theorem dat_at (s : ByteArray) (st : Nat × Nat) (t : List (Nat × Nat)) (h : st.1 ≤ s.size) : (dat s st t).2.1 ≤ s.size := by
  induction t using snocInd with
  | h0 => exact h
  | h1 t e ih => rw [dat_snoc]; exact rdRaw_at _ _ _ ih
theorem dat_err (s : ByteArray) (st : Nat × Nat) (t : List (Nat × Nat)) (h : st.2 = 0 ∨ st.2 = 2) : (dat s st t).2.2 = 0 ∨ (dat s st t).2.2 = 2 := by
  induction t using snocInd with
  | h0 => exact h
  | h1 t e ih => rw [dat_snoc]; exact rdRaw_err _ _ _ ih
theorem dat_ids (s : ByteArray) (st : Nat × Nat) (t : List (Nat × Nat)) : (dat s st t).1.map (·.1) = t.map (·.1) := by
  induction t using snocInd with
  | h0 => rfl
  | h1 t e ih => rw [dat_snoc]; simp [datStep, ih]
theorem dat_small (s : ByteArray) (st : Nat × Nat) (t : List (Nat × Nat)) : ∀ c ∈ (dat s st t).1, c.2.size ≤ s.size := by
  induction t using snocInd with
  | h0 => intro c hc; simp [dat] at hc
  | h1 t e ih =>
    intro c hc
    rw [dat_snoc, datStep, List.mem_append] at hc
    rcases hc with hc | hc
    · exact ih c hc
    · rw [List.mem_singleton] at hc
      subst hc
      exact rdRaw_size2 _ _ _

/-- a table that was read well stands there -/
theorem tabK_bytes (s : ByteArray) (p : Nat) (k : Nat) (h : (tabK s (p, 0) k).2.2 = 0) (hp : p ≤ s.size) : p + 8 * k ≤ s.size ∧ (tabK s (p, 0) k).2 = (p + 8 * k, 0) ∧ tableIx (tabK s (p, 0) k).1 = (s.data.toList.drop p).take (8 * k) := by
  induction k with
  | zero => exact ⟨by omega, rfl, by simp [tabK, tableIx]⟩
  | succ k ih =>
    rw [tabK] at h
    obtain ⟨b1, b2, b3⟩ := rdNum_next s _ 4 h
    obtain ⟨a1, a2, a3⟩ := rdNum_next s _ 4 b1
    obtain ⟨i1, i2, i3⟩ := ih a1
    have hb := rdNum_bytes s _ 4 h
    have ha := rdNum_bytes s _ 4 b1
    rw [a3] at b2 b3 hb
    rw [tabK]
    clear ih h b1 a1
    generalize tabK s (p, 0) k = q at *
    obtain ⟨t, q2⟩ := q
    simp only at *
    subst i2
    simp only at *
    refine ⟨by omega, ?_, ?_⟩
    · rw [a3, b3]
      simp only [Prod.mk.injEq, and_true]
      omega
    · rw [tableIx_append, i3]
      simp only [tableIx, List.append_nil]
      rw [ha, a3, hb]
      have e1 : List.take (8 * (k + 1)) (List.drop p s.data.toList) = List.take (8 * k) (List.drop p s.data.toList) ++ List.take 8 (List.drop (p + 8 * k) s.data.toList) := by
        rw [show 8 * (k + 1) = 8 * k + 8 by omega, List.take_add, List.drop_drop]
      have e2 : List.take 8 (List.drop (p + 8 * k) s.data.toList) = List.take 4 (List.drop (p + 8 * k) s.data.toList) ++ List.take 4 (List.drop (p + 8 * k + 4) s.data.toList) := by
        rw [show (8:Nat) = 4 + 4 from rfl, List.take_add, List.drop_drop]
      rw [e1, e2]

/-- data that were read well stand there -/
theorem dat_bytes (s : ByteArray) (p : Nat) (t : List (Nat × Nat)) (h : (dat s (p, 0) t).2.2 = 0) (hp : p ≤ s.size) :
    p + sizes t ≤ s.size ∧ (dat s (p, 0) t).2 = (p + sizes t, 0) ∧ ixOf (dat s (p, 0) t).1 = t ∧ dataCh (dat s (p, 0) t).1 = (s.data.toList.drop p).take (sizes t) := by
  induction t using snocInd with
  | h0 => exact ⟨by simpa [sizes] using hp, by simp [dat, sizes], by simp [dat, ixOf], by simp [dat, dataCh, sizes]⟩
  | h1 t e ih =>
    rw [dat_snoc] at h ⊢
    have hz : sizes (t ++ [e]) = sizes t + e.2 := by simp [sizes]
    rw [hz]
    simp only [datStep] at h ⊢
    obtain ⟨a1, a2, a3⟩ := rdRaw_ok s _ _ h
    obtain ⟨b1, b2⟩ := rdRaw_bytes s _ _ h
    obtain ⟨i1, i2, i3, i4⟩ := ih a1
    rw [i2] at a2 a3 b1 b2 ⊢
    simp only at a2 b1
    refine ⟨by omega, ?_, ?_, ?_⟩
    · rw [a3]
      simp only [Prod.mk.injEq, and_true]
      omega
    · unfold ixOf at i3 ⊢
      rw [List.map_append, i3]
      simp only [List.map_cons, List.map_nil, b2]
    · rw [dataCh_append, i4, List.take_add, List.drop_drop]
      simp only [dataCh, List.append_nil]
      rw [b1]

/-- a table that stands there is read -/
theorem tabK_there (s : ByteArray) (p : Nat) (r : List UInt8) (t : List (Nat × Nat)) (h : s.data.toList.drop p = tableIx t ++ r) (hp : p ≤ s.size) (ht : ∀ e ∈ t, e.1 < 4294967296 ∧ e.2 < 4294967296) : tabK s (p, 0) t.length = (t, (p + 8 * t.length, 0)) := by
  induction t using snocInd generalizing r with
  | h0 => rfl
  | h1 t e ih =>
    rw [tableIx_append, List.append_assoc] at h
    have hi := ih _ h fun e he => ht e (List.mem_append_left _ he)
    obtain ⟨e1, e2⟩ := ht e (by simp)
    have hl : s.size - p = 8 * t.length + (8 + r.length) := by
      have := congrArg List.length h
      simp [tableIx_length, tableIx, num_length] at this
      omega
    have hd : s.data.toList.drop (p + 8 * t.length) = num e.1 4 ++ (num e.2 4 ++ r) := by
      rw [← List.drop_drop, h, ← tableIx_length t, List.drop_left]
      simp [tableIx]
    have ha := rdNum_there s (p + 8 * t.length) e.1 4 _ hd (by omega) e1
    have hd2 : s.data.toList.drop (p + 8 * t.length + 4) = num e.2 4 ++ r := by
      rw [← List.drop_drop, hd, List.drop_append_of_le_length (by rw [num_length]; exact Nat.le_refl _), List.drop_of_length_le (by rw [num_length]; exact Nat.le_refl _)]
      rfl
    have hb := rdNum_there s (p + 8 * t.length + 4) e.2 4 _ hd2 (by omega) e2
    rw [List.length_append, List.length_singleton, tabK, hi]
    simp only
    rw [ha]
    simp only
    rw [hb]
    simp only [Prod.mk.injEq, and_true, true_and]
    omega

/-- data that stand there are read -/
theorem dat_there (s : ByteArray) (p : Nat) (l : List Ch) (r : List UInt8) (h : s.data.toList.drop p = dataCh l ++ r) (hp : p ≤ s.size) : dat s (p, 0) (ixOf l) = (l, (p + dataSize l, 0)) := by
  induction l using snocInd generalizing r with
  | h0 => rfl
  | h1 l c ih =>
    rw [dataCh_append, List.append_assoc] at h
    have hi := ih _ h
    have hz : dataSize (l ++ [c]) = dataSize l + c.2.size := by simp [dataSize_append, dataSize]
    have hl : s.size - p = dataSize l + (c.2.size + r.length) := by
      have := congrArg List.length h
      simp [dataCh_length, dataCh] at this
      omega
    have hd : s.data.toList.drop (p + dataSize l) = c.2.data.toList ++ r := by
      rw [← List.drop_drop, h, ← dataCh_length l, List.drop_left]
      simp [dataCh]
    have ha := rdRaw_there s (p + dataSize l) _ _ hd (by omega)
    have e1 : c.2.data.toList.length = c.2.size := by simp
    have e2 : (⟨c.2.data.toList.toArray⟩ : ByteArray) = c.2 := by simp
    rw [e1, e2] at ha
    have e3 : ixOf (l ++ [c]) = ixOf l ++ [(c.1, c.2.size)] := by simp [ixOf]
    rw [e3, dat_snoc, hi, hz]
    simp only [datStep, ha, Prod.mk.injEq, and_true, true_and]
    omega
end Go.Proofs.Ytfeljngmidhajaa

namespace Go.Proofs.Ytfeljngmidhajaa
open Go.RowKit Go.Mine

/-- do the IDs rise, from above 0? the last one -/
def chkStep (o : Option Nat) (e : Nat × Nat) : Option Nat := o.bind fun last => if last < e.1 then some e.1 else none
def chk (t : List (Nat × Nat)) : Option Nat := t.foldl chkStep (some 0)
theorem chk_snoc (t : List (Nat × Nat)) (e : Nat × Nat) : chk (t ++ [e]) = chkStep (chk t) e := by simp [chk]
theorem chk_none (t r : List (Nat × Nat)) (h : chk t = none) : chk (t ++ r) = none := by
  induction r using snocInd with
  | h0 => simpa using h
  | h1 r e ih => rw [← List.append_assoc, chk_snoc, ih]; rfl
theorem chk_some (t : List (Nat × Nat)) (m : Nat) (h : chk t = some m) : t.Pairwise (fun a b => a.1 < b.1) ∧ ∀ e ∈ t, e.1 ≠ 0 ∧ e.1 ≤ m := by
  induction t using snocInd generalizing m with
  | h0 => exact ⟨List.Pairwise.nil, fun e he => by simp at he⟩
  | h1 t e ih =>
    rw [chk_snoc] at h
    cases hc : chk t with
    | none => rw [hc] at h; simp [chkStep] at h
    | some k =>
      rw [hc] at h
      simp only [chkStep, Option.bind_some] at h
      split at h
      · rename_i hk
        obtain rfl := Option.some.inj h
        obtain ⟨i1, i2⟩ := ih k hc
        refine ⟨List.pairwise_append.2 ⟨i1, by simp, fun a ha b hb => ?_⟩, fun a ha => ?_⟩
        · rw [List.mem_singleton] at hb; subst hb
          have := (i2 a ha).2; omega
        · rcases List.mem_append.1 ha with ha | ha
          · have := i2 a ha; exact ⟨this.1, by omega⟩
          · rw [List.mem_singleton] at ha; subst ha; omega
      · simp at h
theorem chk_of (t : List (Nat × Nat)) (h1 : t.Pairwise (fun a b => a.1 < b.1)) (h2 : ∀ e ∈ t, e.1 ≠ 0) : ∃ m, chk t = some m ∧ (m = 0 ∨ ∃ e ∈ t, e.1 = m) := by
  induction t using snocInd with
  | h0 => exact ⟨0, rfl, .inl rfl⟩
  | h1 t e ih =>
    obtain ⟨p1, -, p3⟩ := List.pairwise_append.1 h1
    obtain ⟨m, i1, i2⟩ := ih p1 fun e he => h2 e (List.mem_append_left _ he)
    have hlt : m < e.1 := by
      rcases i2 with rfl | ⟨a, ha, rfl⟩
      · have := h2 e (by simp); omega
      · exact p3 a ha e (by simp)
    exact ⟨e.1, by rw [chk_snoc, i1]; simp [chkStep, hlt], .inr ⟨e, by simp, rfl⟩⟩

/-- what the program takes: text without magic and sum -/
def progT (s : ByteArray) : Option (List Ch) :=
  let c := rdNum s (0, 0) 1
  if 16 < c.1 then none else
  let t := tabK s c.2 c.1
  if chk t.1 = none then none else
  let d := dat s t.2 t.1
  if d.2.2 ≠ 0 ∨ d.2.1 < s.size then none else some d.1
/-- what the document reads ahead of its checks -/
def readT (s : ByteArray) : List Ch :=
  let c := rdNum s (0, 0) 1
  if 16 < c.1 then [] else (dat s (tabK s c.2 c.1).2 (tabK s c.2 c.1).1).1

/-- a container's bytes without magic and sum -/
def innerCh (l : List Ch) : List UInt8 := num l.length 1 ++ tableCh l ++ dataCh l

theorem dat_bad (s : ByteArray) (st : Nat × Nat) (t : List (Nat × Nat)) (h : st.2 ≠ 0) : (dat s st t).2 = st := by
  induction t using snocInd with
  | h0 => rfl
  | h1 t e ih => rw [dat_snoc]; simp only [datStep, ih]; rw [rdRaw_bad s st _ h]
theorem tabK_bad (s : ByteArray) (st : Nat × Nat) (k : Nat) (h : st.2 ≠ 0) : (tabK s st k).2 = st := by
  induction k with
  | zero => rfl
  | succ k ih =>
    have h1 : (rdNum s st 4).2 = st := by rw [rdNum, rdRaw_bad s st _ h]
    rw [tabK]
    simp only [ih, h1]

theorem progT_parts (s : ByteArray) (l : List Ch) (h : progT s = some l) : ∃ (c : Nat × (Nat × Nat)) (t : List (Nat × Nat) × (Nat × Nat)) (d : List Ch × (Nat × Nat)), c = rdNum s (0, 0) 1 ∧ t = tabK s c.2 c.1 ∧ d = dat s t.2 t.1 ∧ ¬ 16 < c.1 ∧ chk t.1 ≠ none ∧ d.2.2 = 0 ∧ ¬ d.2.1 < s.size ∧ d.1 = l := by
  unfold progT at h
  simp only at h
  split at h
  · simp at h
  · rename_i hc
    split at h
    · simp at h
    · rename_i hk
      split at h
      · simp at h
      · rename_i hd
        exact ⟨_, _, _, rfl, rfl, rfl, hc, hk, Classical.byContradiction fun q => hd (.inl q), fun q => hd (.inr q), Option.some.inj h⟩

theorem progT_some (s : ByteArray) (l : List Ch) (h : progT s = some l) : Rising l ∧ (∀ c ∈ l, c.1 ≠ 0) ∧ l.length ≤ 16 ∧ s.data.toList = innerCh l ∧ readT s = l := by
  obtain ⟨c, t, d, hc, ht, hd, h16, hk, hd1, hd2, rfl⟩ := progT_parts s l h
  have hread : readT s = d.1 := by
    unfold readT
    simp only
    rw [← hc, if_neg h16, ← ht, ← hd]
  have ht1 : t.2.2 = 0 := by
    apply Classical.byContradiction; intro q
    rw [hd, dat_bad _ _ _ q] at hd1; exact q hd1
  have hc1 : c.2.2 = 0 := by
    apply Classical.byContradiction; intro q
    rw [ht, tabK_bad _ _ _ q] at ht1; exact q ht1
  have hc1' := hc1
  rw [hc] at hc1'
  obtain ⟨-, c2, c3⟩ := rdNum_next s _ 1 hc1'
  have cb := rdNum_bytes s _ 1 hc1'
  rw [← hc] at c3 cb
  simp only [Nat.zero_add, List.drop_zero] at c2 c3 cb
  rw [c3] at ht
  have ht1' := ht1
  rw [ht] at ht1'
  obtain ⟨t1, t2, t3⟩ := tabK_bytes s 1 c.1 ht1' c2
  have tl := tabK_length s (1, 0) c.1
  rw [← ht] at t2 t3 tl
  rw [t2] at hd
  have hd1' := hd1
  rw [hd] at hd1'
  obtain ⟨d1, d2, d3, d4⟩ := dat_bytes s (1 + 8 * c.1) t.1 hd1' t1
  rw [← hd] at d2 d3 d4
  have hlen : d.1.length = c.1 := by
    have := congrArg List.length d3
    simp only [ixOf, List.length_map] at this
    rw [this, tl]
  obtain ⟨m, hm⟩ : ∃ m, chk t.1 = some m := by
    cases hq : chk t.1 with
    | none => exact absurd hq hk
    | some m => exact ⟨m, rfl⟩
  obtain ⟨k1, k2⟩ := chk_some t.1 m hm
  have hdone : 1 + 8 * c.1 + sizes t.1 = s.size := by
    rw [d2] at hd2
    simp only at hd2
    omega
  refine ⟨?_, fun e hem => ?_, by omega, ?_, hread⟩
  · rw [← d3, ixOf, List.pairwise_map] at k1
    exact k1
  · exact (k2 (e.1, e.2.size) (by rw [← d3]; exact List.mem_map.2 ⟨e, hem, rfl⟩)).1
  · have e1 : s.data.toList = s.data.toList.take 1 ++ ((s.data.toList.drop 1).take (8 * c.1) ++ (s.data.toList.drop (1 + 8 * c.1)).take (sizes t.1)) := by
      rw [List.take_of_length_le (l := s.data.toList.drop (1 + 8 * c.1)) (by simp; omega), ← List.drop_drop, List.take_append_drop, List.take_append_drop]
    rw [e1, ← t3, ← d4, innerCh, tableCh_ix, d3, hlen, cb, List.append_assoc]

theorem readT_inner (s : ByteArray) (l : List Ch) (hl : l.length ≤ 16) (hs : ∀ c ∈ l, c.1 < 4294967296 ∧ c.2.size < 4294967296) (h : s.data.toList = innerCh l) :
    rdNum s (0, 0) 1 = (l.length, (1, 0)) ∧ tabK s (1, 0) l.length = (ixOf l, (1 + 8 * l.length, 0)) ∧ dat s (1 + 8 * l.length, 0) (ixOf l) = (l, (1 + 8 * l.length + dataSize l, 0)) ∧ 1 + 8 * l.length + dataSize l = s.size := by
  have hz : s.size = 1 + 8 * l.length + dataSize l := by
    have := congrArg List.length h
    simp [innerCh, num_length, tableCh_length, dataCh_length] at this
    omega
  have h1 : s.data.toList.drop 0 = num l.length 1 ++ (tableCh l ++ dataCh l) := by rw [List.drop_zero, h, innerCh, List.append_assoc]
  have e1 := rdNum_there s 0 l.length 1 _ h1 (by omega) (by omega)
  have h2 : s.data.toList.drop 1 = tableIx (ixOf l) ++ dataCh l := by
    have := congrArg (List.drop 1) h1
    rw [List.drop_zero] at this
    rw [this, ← tableCh_ix]
    have : (num l.length 1).length = 1 := num_length _ _
    rw [List.drop_append_of_le_length (by omega), List.drop_of_length_le (by omega)]
    rfl
  have e2 := tabK_there s 1 _ (ixOf l) h2 (by omega) fun e he => by
    obtain ⟨c, hc, rfl⟩ := List.mem_map.1 he
    exact hs c hc
  have hil : (ixOf l).length = l.length := by simp [ixOf]
  rw [hil] at e2
  have h3 : s.data.toList.drop (1 + 8 * l.length) = dataCh l ++ [] := by
    rw [← List.drop_drop, h2, List.append_nil, ← hil, ← tableIx_length, List.drop_left]
  have e3 := dat_there s (1 + 8 * l.length) l [] h3 (by omega)
  exact ⟨e1, e2, e3, by omega⟩

theorem progT_of (s : ByteArray) (l : List Ch) (hr : Rising l) (h0 : ∀ c ∈ l, c.1 ≠ 0) (hl : l.length ≤ 16) (hs : ∀ c ∈ l, c.1 < 4294967296 ∧ c.2.size < 4294967296) (h : s.data.toList = innerCh l) : progT s = some l := by
  obtain ⟨e1, e2, e3, e4⟩ := readT_inner s l hl hs h
  obtain ⟨m, hm, -⟩ := chk_of (ixOf l) (by rw [ixOf, List.pairwise_map]; exact hr) fun e he => by
    obtain ⟨c, hc, rfl⟩ := List.mem_map.1 he
    exact h0 c hc
  unfold progT
  simp only [e1, e2, e3]
  rw [if_neg (by omega), if_neg (by rw [hm]; simp), if_neg (by simp; omega)]

theorem checkCh_of (l : List Ch) : ∀ pre : List Ch, ((pre ++ l).map (·.1)).Nodup → (∀ c ∈ l, c.1 ≠ 0) → checkCh pre l = 0 := by
  induction l with
  | nil => intro pre _ _; rfl
  | cons c l ih =>
    intro pre hn h0
    unfold checkCh
    have hh : hasCh pre c.1 = false := by
      unfold hasCh
      rw [List.any_eq_false]
      intro d hd q
      rw [List.map_append, List.nodup_append] at hn
      exact hn.2.2 d.1 (List.mem_map.2 ⟨d, hd, rfl⟩) c.1 (by simp) (by simpa using q)
    rw [if_neg (h0 c (by simp)), hh, if_neg (by simp)]
    exact ih _ (by rw [List.append_assoc]; exact hn) fun d hd => h0 d (List.mem_cons_of_mem _ hd)
theorem rising_nodup (l : List Ch) (h : Rising l) : (l.map (·.1)).Nodup := by
  rw [List.Nodup, List.pairwise_map]
  exact h.imp fun q => Nat.ne_of_lt q
theorem sortCh_rise (l : List Ch) (h : Rising l) : sortCh l = l := rising_unique _ _ (sortCh_rising l (rising_nodup l h)) h (sortCh_perm l)

theorem buildErr_iff (l : List Ch) : buildErr l = 0 ↔ l.length ≤ 16 ∧ checkCh [] l = 0 ∧ 10 + 8 * l.length + dataSize l ≤ 4194304 := by
  unfold buildErr
  split
  · constructor
    · intro h; omega
    · intro h; omega
  · split
    · rename_i h1 h2
      constructor
      · intro h; exact absurd h h2
      · intro h; exact absurd h.2.1 h2
    · split
      · constructor
        · intro h; omega
        · intro h; omega
      · rename_i h1 h2 h3
        exact ⟨fun _ => ⟨by omega, by simpa using h2, by omega⟩, fun _ => rfl⟩
end Go.Proofs.Ytfeljngmidhajaa

namespace Go.Proofs.Ytfeljngmidhajaa
open Go.RowKit Go.Mine

theorem info3 : (Try.prog.info? 3).map (fun i => (i.zero, i.size, i.bytes)) = some (some (.int .i64 0), 1, 8) := by kernel_rfl

/-- chunks without data -/
def bare (t : List (Nat × Nat)) : List Ch := t.map fun e => (e.1, ⟨#[]⟩)
def icells (t : List (Nat × Nat)) : List Value := t.map fun e => .int .i64 (e.2 : Nat)
/-- two lists of blocks that are apart, made since w -/
def Apart (w wr : World) (S1 S2 : Nat → Prop) : Prop := (∀ b, S1 b → w.heap.size ≤ b ∧ b < wr.heap.size ∧ ¬ S2 b) ∧ (∀ b, S2 b → w.heap.size ≤ b ∧ b < wr.heap.size)

def T1 (w : World) (p : Nat) (s : ByteArray) (st : Nat × Nat) (c : Nat) (g : Nat) (lv sv last i : Value) (wr : World) : Prop :=
  ∃ (k m : Nat) (S1 S2 : Nat → Prop), k + g = c ∧ i = .int .u8 k ∧ last = .int .u32 m ∧ chk (tabK s st k).1 = some m ∧ Sl wr S1 31 2 lv (ccells (bare (tabK s st k).1)) k ∧
    Sl wr S2 3 1 sv (icells (tabK s st k).1) k ∧ RdIs wr p s (tabK s st k).2 ∧ Turned (· = p) w wr ∧ Apart w wr S1 S2

def T2 (w : World) (p : Nat) (s : ByteArray) (st : Nat × Nat) (t : List (Nat × Nat)) (lv sv : Value) (g : Nat) (i : Value) (wr : World) : Prop :=
  ∃ (k : Nat) (S1 S2 : Nat → Prop), k + g = t.length ∧ i = .int .i64 k ∧ Sl wr S1 31 2 lv (ccells ((dat s st (t.take k)).1 ++ bare (t.drop k))) t.length ∧
    Sl wr S2 3 1 sv (icells t) t.length ∧ RdIs wr p s (dat s st (t.take k)).2 ∧ Turned (· = p) w wr ∧ Apart w wr S1 S2

theorem ccells_set (A : List Ch) (i : Nat) (x b : ByteArray) (B : List Ch) : (ccells (A ++ (i, x) :: B)).set (A.length * 2 + 1) (.string b) = ccells (A ++ [(i, b)] ++ B) := by
  rw [ccells_append, List.append_assoc, ccells_append]
  have h := ccells_length A
  rw [List.set_append_right _ _ (by omega), h]
  congr 1
  rw [show A.length * 2 + 1 - A.length * 2 = 1 by omega]
  rfl

def TabPost (w : World) (p : Nat) (s : ByteArray) (e : Ending) (w' : World) : Prop :=
  Turned (· = p) w w' ∧ ((progT s = none ∧ e = .returned (.tuple #[.slice none 0 0, .int .i64 3])) ∨
    ∃ l v, progT s = some l ∧ e = .returned (.tuple #[v, .int .i64 0]) ∧ Sl w' (fun b => w.heap.size ≤ b) 31 2 v (ccells l) l.length)

set_option maxRecDepth 100000 in
set_option maxHeartbeats 4000000 in
theorem table_any {w : World} {p : Nat} {s : ByteArray} (h : RdIs w p s (0, 0)) (hs : s.size ≤ 4611686018427387904) : Calls Try.prog 61 #[pt p] w (TabPost w p s) := by
  have HS : Hid (s.size ≤ 4611686018427387904) := hs
  have hp := lt_of_block h
  have HP : Hid (p < w.heap.size) := hp
  have h8 := u8_r h (Nat.zero_le _) hs
  unfold NumPost at h8
  obtain ⟨c, hc⟩ : ∃ c, c = rdNum s (0, 0) 1 := ⟨_, rfl⟩
  have hc256 : c.1 < 256 := by rw [hc]; exact rdNum_lt s (0, 0) 1
  have hcat : c.2.1 ≤ s.size := by rw [hc]; exact rdNum_at s (0, 0) 1 (Nat.zero_le _)
  rw [← hc] at h8
  have HC : Hid (c = rdNum s (0, 0) 1 ∧ c.1 < 256 ∧ c.2.1 ≤ s.size) := ⟨hc, hc256, hcat⟩
  obtain ⟨n, st⟩ := c
  simp only at h8 HC
  clear h hs hp hc hc256 hcat
  by_cases h16 : 16 < n
  · have hd : decide ((16 : Int) < (n : Int)) = true := by simp; omega
    have hd2 : decide (16 < n) = true := by simp; omega
    have HN : Hid (progT s = none) := by
      have h1 := HC.out.1
      have : progT s = none := by
        unfold progT
        simp only [← h1]
        rw [if_pos h16]
      exact this
    clear h16
    go_enter Try.func61, Try.ntmps61
    go_wp2_with (go_at_call 82; (with_reducible refine h8.mono ?_); rintro e w1 ⟨rfl, hr, ht⟩)
    go_ret2
    exact ⟨ht, .inl ⟨HN.out, rfl⟩⟩
  · have hd : decide ((16 : Int) < (n : Int)) = false := by simp; omega
    have hd2 : decide (16 < n) = false := by simp; omega
    have H16 : Hid (n ≤ 16) := (by omega : n ≤ 16)
    clear h16
    go_enter Try.func61, Try.ntmps61
    go_wp2_with (go_at_call 82; (with_reducible refine h8.mono ?_); rintro e w1 ⟨rfl, hr, ht⟩)
    have HS1 : Hid (T1 w p s st n n (.slice none 0 0) (.slice none 0 0) (.int .u32 0) (.int .u8 0) w1) :=
      ⟨0, 0, fun _ => False, fun _ => False, by omega, rfl, rfl, rfl, Sl.nil _ _ _ _, Sl.nil _ _ _ _, hr, ht, ⟨fun _ q => q.elim, fun _ q => q.elim⟩⟩
    clear hr ht hd hd2 h8
    go_loopg [6, 7, 8, 23] n (fun g lv sv last i wr => T1 w p s st n g lv sv last i wr)
    case atStart => exact HS1.out
    case round =>
      obtain ⟨k, m, S1, S2, hkg, rfl, rfl, hck, hsl1, hsl2, hrd, htw, hap⟩ := hrel
      have G : Hid (k + gk = n) := hkg
      have CK : Hid (chk (tabK s st k).1 = some m) := hck
      have L1 : Hid (Sl wr S1 31 2 u6 (ccells (bare (tabK s st k).1)) k) := hsl1
      have L2 : Hid (Sl wr S2 3 1 u7 (icells (tabK s st k).1) k) := hsl2
      have RD : Hid (RdIs wr p s (tabK s st k).2) := hrd
      have TW : Hid (Turned (· = p) w wr) := htw
      have AP : Hid (Apart w wr S1 S2) := hap
      obtain ⟨a1, cap1, rfl, -, -⟩ := hsl1.value
      obtain ⟨a2, cap2, rfl, -, -⟩ := hsl2.value
      clear hkg hck hsl1 hsl2 hrd htw hap HS1
      have hat := tabK_at s st k HC.out.2.2
      have hA := u32_r RD.out hat HS.out
      have hB := fun w2 (hr2 : RdIs w2 p s (rdNum s (tabK s st k).2 4).2) => u32_r hr2 (rdNum_at s _ 4 hat) HS.out
      unfold NumPost at hA hB
      have TS : Hid ((tabK s st (k + 1)).1 = (tabK s st k).1 ++ [((rdNum s (tabK s st k).2 4).1, (rdNum s (rdNum s (tabK s st k).2 4).2 4).1)] ∧ (tabK s st (k + 1)).2 = (rdNum s (rdNum s (tabK s st k).2 4).2 4).2) := ⟨rfl, rfl⟩
      have hq1 := rdNum_lt s (tabK s st k).2 4
      have hq2 := rdNum_lt s (rdNum s (tabK s st k).2 4).2 4
      generalize (rdNum s (rdNum s (tabK s st k).2 4).2 4) = q2 at *
      generalize (rdNum s (tabK s st k).2 4) = q1 at *
      obtain ⟨id, st1⟩ := q1
      obtain ⟨sz, st2⟩ := q2
      simp only at hA hB TS hq1 hq2
      have HB : Hid (∀ w2, RdIs w2 p s st1 → Calls Try.prog 60 #[pt p] w2 fun e w' => e = .returned (.tuple #[.int .u32 (sz : Nat), .int .i64 (st2.2 : Nat)]) ∧ RdIs w' p s st2 ∧ Turned (· = p) w2 w') := hB
      have HQ : Hid (id < 4294967296 ∧ sz < 4294967296) := ⟨hq1, hq2⟩
      clear hat hB hq1 hq2
      by_cases hlt : k < n
      · by_cases hmi : m < id
        · have hd : decide ((id : Int) ≤ (m : Int)) = false := by simp; omega
          have hd2 : decide (id ≤ m) = false := by simp; omega
          have HM : Hid (m < id) := hmi
          have HW : Hid (wrap64 (sz : Int) = (sz : Int)) := (by have := HQ.out; simp [wrap64]; omega : wrap64 (sz : Int) = (sz : Int))
          have m1 : Hid (k + 1 ≤ maxLen ∧ (k + 1) * 24 ≤ 140737488355328 ∧ (k + 1) * 8 ≤ 140737488355328) := (by have := H16.out; simp only [maxLen]; omega : k + 1 ≤ maxLen ∧ (k + 1) * 24 ≤ 140737488355328 ∧ (k + 1) * 8 ≤ 140737488355328)
          clear hmi
          go_wp2_with (first
            | (go_at_call 60; (with_reducible refine hA.mono ?_); rintro e w2 ⟨rfl, hr2, ht2⟩; have h60 := HB.out w2 hr2; have Z2 : Hid (Turned (· = p) wr w2) := ht2; clear hr2 ht2 hA)
            | (go_at_call 60; (with_reducible refine h60.mono ?_); rintro e w3 ⟨rfl, hr3, ht3⟩; have Z3 : Hid (Turned (· = p) wr w3 ∧ RdIs w3 p s st2) := ⟨Z2.out.trans ht3 (fun _ _ q => q), hr3⟩; have A1 : Hid (Sl (w3.alloc (.cells #[.int .u32 (id : Nat), .string ⟨#[]⟩] 31)) S1 31 2 (.slice a1 k cap1) (ccells (bare (tabK s st k).1)) k) := (L1.out.turned Z3.out.1 (fun b q z => by have := AP.out.1 b q; have := HP.out; omega)).turned (Turned.alloc (fun _ => False) w3 _) (fun _ _ q => q); clear hr3 ht3 h60)
            | (at_builtin; first
              | (refine wpList_append rfl _ _ 22 22 rfl A1.out Try.underlying22 info31 rfl (by decide) rfl (.slice (some ⟨w3.heap.size, 0, none⟩) 1 1) rfl (src_ch (id, ⟨#[]⟩) w3) m1.out.1 m1.out.2.1 ?_; intro x4 w4 q1 t1; obtain ⟨a3, cap3, hv3, -, -⟩ := q1.value; subst hv3; have Q1 : Hid (Sl w4 (More S1 (w3.alloc (.cells #[.int .u32 (id : Nat), .string ⟨#[]⟩] 31))) 31 2 (.slice a3 (k + 1) cap3) (ccells (bare (tabK s st k).1) ++ ccells [(id, ⟨#[]⟩)]) (k + 1) ∧ Turned S1 (w3.alloc (.cells #[.int .u32 (id : Nat), .string ⟨#[]⟩] 31)) w4) := ⟨q1, t1⟩; have A2 : Hid (Sl (w4.alloc (.cells #[.int .i64 (wrap64 (sz : Int))] 3)) S2 3 1 (.slice a2 k cap2) (icells (tabK s st k).1) k) := (((L2.out.turned Z3.out.1 (fun b q z => by have := AP.out.2 b q; have := HP.out; omega)).turned ((Turned.alloc S1 w3 (.cells #[.int .u32 (id : Nat), .string ⟨#[]⟩] 31)).trans t1 (fun _ _ q => q)) (fun b q z => (AP.out.1 b z).2.2 q)).turned (Turned.alloc (fun _ => False) w4 _) (fun _ _ q => q)); clear q1 t1)
              | (refine wpList_append rfl _ _ 57 57 rfl A2.out Try.underlying57 info3 rfl (by decide) rfl (.slice (some ⟨w4.heap.size, 0, none⟩) 1 1) rfl (src_one Try.underlying57 (.int .i64 (wrap64 (sz : Int))) rfl w4) m1.out.1 m1.out.2.2 ?_; intro x5 w5 q3 t3; obtain ⟨a5, cap5, hv5, -, -⟩ := q3.value; subst hv5; have Q3 : Hid (Sl w5 (More S2 (w4.alloc (.cells #[.int .i64 (wrap64 (sz : Int))] 3))) 3 1 (.slice a5 (k + 1) cap5) (icells (tabK s st k).1 ++ [.int .i64 (wrap64 (sz : Int))]) (k + 1) ∧ Turned S2 (w4.alloc (.cells #[.int .i64 (wrap64 (sz : Int))] 3)) w5) := ⟨q3, t3⟩; clear q3 t3)))
          go_roundg (gk - 1)
          case measure => have := G.out; omega
          case rel =>
            have g0 := TW.out.size
            have g1 := Z3.out.1.size
            have g2 := Q1.out.2.size
            have g3 := Q3.out.2.size
            have g4 : (w3.alloc (.cells #[.int .u32 (id : Nat), .string ⟨#[]⟩] 31)).heap.size = w3.heap.size + 1 := by simp
            have g5 : (w4.alloc (.cells #[.int .i64 (wrap64 (sz : Int))] 3)).heap.size = w4.heap.size + 1 := by simp
            have hap1 := AP.out.1
            have hap2 := AP.out.2
            have hp := HP.out
            have k3 : Turned S2 w4 w5 := (Turned.alloc S2 w4 _).trans Q3.out.2 fun _ _ q => q
            have k1 : Turned S1 w3 w4 := (Turned.alloc S1 w3 _).trans Q1.out.2 fun _ _ q => q
            refine ⟨k + 1, id, fun b => More S1 (w3.alloc (.cells #[.int .u32 (id : Nat), .string ⟨#[]⟩] 31)) b ∧ b < w4.heap.size, fun b => More S2 (w4.alloc (.cells #[.int .i64 (wrap64 (sz : Int))] 3)) b ∧ b < w5.heap.size, by have := G.out; omega, ?_, rfl, ?_, ?_, ?_, ?_, ?_, ?_⟩
            · have := H16.out; have := G.out
              simp; omega
            · rw [TS.out.1, chk_snoc, CK.out]
              simp [chkStep, HM.out]
            · have q1 := Q1.out.1.bound
              have e1 : ccells (bare (tabK s st k).1) ++ ccells [(id, ⟨#[]⟩)] = ccells (bare (tabK s st (k + 1)).1) := by
                rw [TS.out.1, ← ccells_append]; simp [bare]
              rw [e1] at q1
              exact q1.turned k3 fun b q z => by
                have := (hap2 b z); have := q.1
                rcases q.1 with y | y
                · exact (hap1 b y).2.2 z
                · omega
            · have q3 := Q3.out.1.bound
              have e1 : icells (tabK s st k).1 ++ [.int .i64 (wrap64 (sz : Int))] = icells (tabK s st (k + 1)).1 := by
                rw [TS.out.1, HW.out]; simp [icells]
              rw [e1] at q3
              exact q3
            · rw [TS.out.2]
              exact ((Z3.out.2.turned k1 fun q => by have := hap1 p q; omega).turned k3 fun q => by have := hap2 p q; omega)
            · exact (((TW.out.trans Z3.out.1 fun _ _ q => q).comp k1 fun i hi q => q.elim (fun q => q) fun q => by have := hap1 i q; omega).comp k3 fun i hi q => q.elim (fun q => q) fun q => by have := hap2 i q; omega)
            · refine ⟨fun b q => ⟨?_, by omega, fun z => ?_⟩, fun b q => ⟨?_, q.2⟩⟩
              · rcases q.1 with y | y
                · exact (hap1 b y).1
                · omega
              · rcases z.1 with y | y
                · rcases q.1 with x | x
                  · exact (hap1 b x).2.2 y
                  · have := hap2 b y; omega
                · omega
              · rcases q.1 with y | y
                · exact (hap2 b y).1
                · omega
        · have hd : decide ((id : Int) ≤ (m : Int)) = true := by simp; omega
          have hd2 : decide (id ≤ m) = true := by simp; omega
          have HN : Hid (progT s = none) := by
            have h1 := HC.out.1
            have hn1 : chk (tabK s st n).1 = none := by
              have e1 : (tabK s st n).1 = (tabK s st (k + 1)).1 ++ (tabK s st n).1.drop (k + 1) := by
                rw [← tabK_take s st n (k + 1) (by omega), List.take_append_drop]
              rw [e1]
              refine chk_none _ _ ?_
              rw [TS.out.1, chk_snoc, CK.out]
              simp [chkStep]; omega
            have : progT s = none := by
              unfold progT
              simp only [← h1]
              rw [if_neg (by have := H16.out; omega), if_pos hn1]
            exact this
          clear hmi
          go_wp2_with (first
            | (go_at_call 60; (with_reducible refine hA.mono ?_); rintro e w2 ⟨rfl, hr2, ht2⟩; have h60 := HB.out w2 hr2; have Z2 : Hid (Turned (· = p) wr w2) := ht2; clear hr2 ht2 hA)
            | (go_at_call 60; (with_reducible refine h60.mono ?_); rintro e w3 ⟨rfl, hr3, ht3⟩; have Z3 : Hid (Turned (· = p) wr w3) := Z2.out.trans ht3 (fun _ _ q => q); clear hr3 ht3 h60))
          go_ret2
          exact ⟨TW.out.trans Z3.out fun _ _ q => q, .inl ⟨HN.out, rfl⟩⟩
      · have hk : k = n := by have := G.out; omega
        subst hk
        clear hA HB HQ TS hlt G
        have hat := tabK_at s st k HC.out.2.2
        have hlen := tabK_length s st k
        have hpr : progT s = (if (dat s (tabK s st k).2 (tabK s st k).1).2.2 ≠ 0 ∨ (dat s (tabK s st k).2 (tabK s st k).1).2.1 < s.size then none else some (dat s (tabK s st k).2 (tabK s st k).1).1) := by
          have h1 := HC.out.1
          have hck := CK.out
          unfold progT
          simp only [← h1]
          rw [if_neg (by have := H16.out; omega), if_neg (by rw [hck]; simp)]
        have HAT : Hid ((tabK s st k).2.1 ≤ s.size ∧ ∀ e ∈ (tabK s st k).1, e.2 < 4294967296) := ⟨hat, fun e he => (tabK_lt s st k e he).2⟩
        have HPR : Hid (progT s = (if (dat s (tabK s st k).2 (tabK s st k).1).2.2 ≠ 0 ∨ (dat s (tabK s st k).2 (tabK s st k).1).2.1 < s.size then none else some (dat s (tabK s st k).2 (tabK s st k).1).1)) := hpr
        clear hat hpr CK
        generalize (tabK s st k).2 = st' at *
        generalize (tabK s st k).1 = t at *
        have LN : Hid (t.length = k) := hlen
        clear hlen
        have HS2 : Hid (T2 w p s st' t (.slice a1 k cap1) (.slice a2 k cap2) k (.int .i64 0) wr) :=
          ⟨0, S1, S2, by rw [LN.out]; omega, rfl, by rw [LN.out]; simpa [dat] using L1.out, by rw [LN.out]; exact L2.out, RD.out, TW.out, AP.out⟩
        clear L1 L2 RD TW AP
        go_wp2
        obtain ⟨wo, rfl⟩ : ∃ x : World, x = wr := ⟨wr, rfl⟩
        go_loopg [52] k (fun g i wr => T2 w p s st' t (.slice a1 k cap1) (.slice a2 k cap2) g i wr)
        case atStart => exact HS2.out
        case round =>
          obtain ⟨i, S3, S4, hig, rfl, hsl1, hsl2, hrd, htw, hap⟩ := hrel
          rw [LN.out] at hsl1 hsl2 hig
          have G : Hid (i + gk = k) := hig
          have L1 : Hid (Sl wr S3 31 2 (.slice a1 k cap1) (ccells ((dat s st' (t.take i)).1 ++ bare (t.drop i))) k) := hsl1
          have L2 : Hid (Sl wr S4 3 1 (.slice a2 k cap2) (icells t) k) := hsl2
          have RD : Hid (RdIs wr p s (dat s st' (t.take i)).2) := hrd
          have TW : Hid (Turned (· = p) w wr) := htw
          have AP : Hid (Apart w wr S3 S4) := hap
          clear hig hsl1 hsl2 hrd htw hap HS2
          have hat := dat_at s st' (t.take i) HAT.out.1
          by_cases hlt : i < k
          · obtain ⟨e, he⟩ : ∃ e, t[i]? = some e := ⟨_, List.getElem?_eq_getElem (by rw [LN.out]; exact hlt)⟩
            obtain ⟨g2, off2, cp2, hv2, -, -, -, hcl2, -, hg2⟩ := L2.out.opens (by omega)
            injection hv2 with e1 e2 e3
            subst e1
            subst e3
            have c0 : wr.cell? ⟨g2, off2 + i, none⟩ = some (.int .i64 (e.2 : Nat)) := by
              rw [hcl2 i (by omega)]; simp [icells, he]
            have hraw := raw_r e.2 RD.out hat HS.out (by have := HAT.out.2 e (List.mem_of_getElem? he); omega)
            unfold RawPost at hraw
            have HE : Hid (t[i]? = some e) := he
            have hst : ∀ w2, Turned (· = p) wr w2 → ∃ g1 off1, a1 = some ⟨g1, off1, none⟩ ∧ S3 g1 ∧ g1 < w2.heap.size ∧ (∃ u, w2.cell? ⟨g1, off1 + i * 2 + 1, none⟩ = some u) ∧ w2.frozen? ⟨g1, off1 + i * 2 + 1, none⟩ = false := fun w2 t2 => by
              obtain ⟨g1, off1, cp1, hv1, hS, -, -, hcl1, hfr, hg1⟩ := (L1.out.turned t2 fun b q z => by have := AP.out.1 b q; have := HP.out; omega).opens (by omega)
              injection hv1 with e1 e2 e3
              refine ⟨g1, off1, e1, hS, hg1, ?_, hfr _⟩
              have hlen2 := L1.out.1
              refine ⟨_, (hcl1 (i * 2 + 1) (by omega)).trans (List.getElem?_eq_getElem (by rw [hlen2]; omega))⟩
            have HST : Hid (∀ w2, Turned (· = p) wr w2 → ∃ g1 off1, a1 = some ⟨g1, off1, none⟩ ∧ S3 g1 ∧ g1 < w2.heap.size ∧ (∃ u, w2.cell? ⟨g1, off1 + i * 2 + 1, none⟩ = some u) ∧ w2.frozen? ⟨g1, off1 + i * 2 + 1, none⟩ = false) := hst
            have DS : Hid (dat s st' (t.take (i + 1)) = ((dat s st' (t.take i)).1 ++ [(e.1, (rdRaw s (dat s st' (t.take i)).2 e.2).1)], (rdRaw s (dat s st' (t.take i)).2 e.2).2)) := dat_take s st' t i e he
            clear hcl2 hst he hat
            generalize rdRaw s (dat s st' (t.take i)).2 e.2 = q at *
            obtain ⟨bd, stn⟩ := q
            simp only at hraw DS
            go_wp2_with (go_at_call 83; (with_reducible refine hraw.mono ?_); rintro e w2 ⟨rfl, hr2, ht2⟩; obtain ⟨g1, off1, rfl, hS1, hgl1, ⟨u, hu⟩, hfz⟩ := HST.out w2 ht2; have Z2 : Hid (Turned (· = p) wr w2 ∧ RdIs w2 p s stn ∧ S3 g1) := ⟨ht2, hr2, hS1⟩; clear ht2 hr2 hS1)
            go_roundg (gk - 1)
            case measure => have := G.out; omega
            case rel =>
              have hap1 := AP.out.1
              have hap2 := AP.out.2
              have hp := HP.out
              have hgk := G.out
              have hsl3 := L1.out.turned Z2.out.1 fun b q z => by have := hap1 b q; omega
              obtain ⟨q1, q2, q3⟩ := hsl3.set (i * 2 + 1) (by omega) (.string bd)
              rw [← Nat.add_assoc] at q1 q2 q3
              have z1 := Z2.out.1.size
              refine ⟨i + 1, S3, S4, by rw [LN.out]; omega, by have := H16.out; simp [wrap64]; omega, ?_, ?_, ?_, ?_, ?_⟩
              · rw [DS.out, LN.out]
                have hdr : t.drop i = e :: t.drop (i + 1) := by
                  have hi := (List.getElem?_eq_some_iff.1 HE.out)
                  rw [List.drop_eq_getElem_cons hi.1, hi.2]
                have hln : (dat s st' (t.take i)).1.length = i := by rw [dat_length, List.length_take, LN.out]; omega
                have h5 : bare (t.drop i) = (e.1, ⟨#[]⟩) :: bare (t.drop (i + 1)) := by rw [hdr]; rfl
                rw [h5] at q1
                have h6 := ccells_set (dat s st' (t.take i)).1 e.1 ⟨#[]⟩ bd (bare (t.drop (i + 1)))
                rw [hln] at h6
                rw [h6] at q1
                exact q1
              · rw [LN.out]
                exact ((L2.out.turned Z2.out.1 fun b q z => by have := hap2 b q; omega).turned q2 fun b q z => (hap1 b z).2.2 q)
              · rw [DS.out]
                exact Z2.out.2.1.turned q2 fun q => by have := hap1 p q; omega
              · exact (TW.out.trans Z2.out.1 fun _ _ q => q).comp q2 fun i hi q => q.elim (fun q => q) fun q => by have := hap1 i q; omega
              · exact ⟨fun b q => ⟨(hap1 b q).1, by have := hap1 b q; omega, (hap1 b q).2.2⟩, fun b q => ⟨(hap2 b q).1, by have := hap2 b q; omega⟩⟩
          · have hi : i = k := by have := G.out; omega
            subst hi
            have htk : t.take i = t := List.take_of_length_le (by rw [LN.out]; exact Nat.le_refl _)
            have hdr : t.drop i = [] := List.drop_of_length_le (by rw [LN.out]; exact Nat.le_refl _)
            rw [htk] at hat
            have hrd := RD.out
            rw [htk] at hrd
            have hl1 := L1.out
            rw [htk, hdr] at hl1
            have hend := end_r hrd hat HS.out
            have F1 : Hid (Sl wr S3 31 2 (.slice a1 i cap1) (ccells (dat s st' t).1) i ∧ (dat s st' t).1.length = i) := ⟨by simpa [bare] using hl1, by rw [dat_length, LN.out]⟩
            by_cases hz : (dat s st' t).2.2 = 0 ∧ s.size ≤ (dat s st' t).2.1
            · have HZ : Hid ((dat s st' t).2.2 = 0 ∧ s.size ≤ (dat s st' t).2.1) := hz
              have HN : Hid (progT s = some (dat s st' t).1) := by
                have := HPR.out
                rw [if_neg (by have := hz.1; have := hz.2; omega)] at this
                exact this
              clear hz htk hdr hl1 hat hrd
              go_wp2_with (go_at_call 84; (with_reducible refine hend.mono ?_); rintro e w2 ⟨kk, rfl, hk, ht2⟩; obtain rfl : kk = 0 := hk.2 HZ.out)
              go_ret2
              refine ⟨TW.out.trans ht2 fun _ _ q => q, .inr ⟨_, _, HN.out, rfl, ?_⟩⟩
              rw [F1.out.2]
              exact ((F1.out.1.turned ht2 fun b q z => by have := AP.out.1 b q; have := HP.out; omega).widen fun b q => (AP.out.1 b q).1)
            · have HZ : Hid (¬ ((dat s st' t).2.2 = 0 ∧ s.size ≤ (dat s st' t).2.1)) := hz
              have HN : Hid (progT s = none) := by
                have := HPR.out
                rw [if_pos (by omega)] at this
                exact this
              clear hz htk hdr hl1 hat hrd
              go_wp2_with (go_at_call 84; (with_reducible refine hend.mono ?_); rintro e w2 ⟨kk, rfl, hk, ht2⟩; have hk0 : kk ≠ 0 := (fun q => HZ.out (hk.1 q)); have hd : ((kk : Int) == 0) = false := (by simp; omega); clear hk)
              go_ret2
              exact ⟨TW.out.trans ht2 fun _ _ q => q, .inl ⟨HN.out, rfl⟩⟩
end Go.Proofs.Ytfeljngmidhajaa

namespace Go.Proofs.Ytfeljngmidhajaa
open Go.RowKit Go.Mine

def finR : Option (List Ch) → Except Nat (List Ch)
  | none => .error 3
  | some l => .ok l

/-- what Parse answers -/
def parseR (t : ByteArray) : Except Nat (List Ch) :=
  if 4194304 < t.size then .error 5
  else if t.size < 10 then .error 2
  else if t.extract 0 5 ≠ ⟨#[80, 68, 71, 67, 1]⟩ then .error 3
  else if (rdNum (t.extract (t.size - 4) t.size) (0, 0) 4).1 ≠ Crc.sum (nums (t.extract 0 (t.size - 4))) then .error 4
  else finR (progT (t.extract 5 (t.size - 4)))

def ParsePost (w : World) (r : Except Nat (List Ch)) (e : Ending) (w' : World) : Prop :=
  Turned (fun _ => False) w w' ∧ match r with
    | .error k => e = .returned (.tuple #[.slice none 0 0, .int .i64 (k : Nat)])
    | .ok l => ∃ v, e = .returned (.tuple #[v, .int .i64 0]) ∧ Sl w' (fun b => w.heap.size ≤ b) 31 2 v (ccells l) l.length

set_option maxRecDepth 100000 in
set_option maxHeartbeats 4000000 in
theorem parse_any (t : ByteArray) (w : World) (hs : t.size ≤ 4611686018427387904) : Calls Try.prog 29 #[.string t] w (ParsePost w (parseR t)) := by
  by_cases h1 : 4194304 < t.size
  · have hd : decide ((4194304 : Int) < (t.size : Int)) = true := by simp; omega
    have hd2 : decide (4194304 < t.size) = true := by simp; omega
    have HR : Hid (parseR t = .error 5) := by
      have : parseR t = .error 5 := by unfold parseR; rw [if_pos h1]
      exact this
    rw [HR.out]
    clear hs h1
    go_enter Try.func29, Try.ntmps29
    go_wp2
    go_ret2
    exact ⟨Turned.refl _ _, rfl⟩
  have hd : decide ((4194304 : Int) < (t.size : Int)) = false := by simp; omega
  have hd2 : decide (4194304 < t.size) = false := by simp; omega
  by_cases h2 : t.size < 10
  · have hd3 : decide ((t.size : Int) < 10) = true := by simp; omega
    have hd4 : decide (t.size < 10) = true := by simp; omega
    have HR : Hid (parseR t = .error 2) := by
      have : parseR t = .error 2 := by unfold parseR; rw [if_neg h1, if_pos h2]
      exact this
    rw [HR.out]
    clear hs h1 h2
    go_enter Try.func29, Try.ntmps29
    go_wp2
    go_ret2
    exact ⟨Turned.refl _ _, rfl⟩
  have hd3 : decide ((t.size : Int) < 10) = false := by simp; omega
  have hd4 : decide (t.size < 10) = false := by simp; omega
  have hw : wrap64 ((t.size : Int) - 4) = ((t.size - 4 : Nat) : Int) := by simp [wrap64]; omega
  have hsl1 : ∀ W, (Instr.slice 9 (.string t) none (some (.int .i64 5)) none).run Try.prog W = .ok (.string (t.extract 0 5)) W := fun W => by
    have := run_slice_string_h (P := Try.prog) W 9 t Try.underlying9 .i64 5 (by omega) (by omega)
    exact this
  by_cases h3 : t.extract 0 5 = ⟨#[80, 68, 71, 67, 1]⟩
  · rw [h3] at hsl1
    have hsl2 : ∀ W, (Instr.slice 9 (.string t) (some (.int .i64 (wrap64 ((t.size : Int) - 4)))) none none).run Try.prog W = .ok (.string (t.extract (t.size - 4) t.size)) W := fun W => by
      rw [hw]
      have := run_slice_string_l (P := Try.prog) W 9 t Try.underlying9 .i64 ((t.size - 4 : Nat) : Int) (by omega) (by omega)
      rw [Int.toNat_natCast] at this
      exact this
    have hsl3 : ∀ W, (Instr.slice 9 (.string t) none (some (.int .i64 (wrap64 ((t.size : Int) - 4)))) none).run Try.prog W = .ok (.string (t.extract 0 (t.size - 4))) W := fun W => by
      rw [hw]
      have := run_slice_string_h (P := Try.prog) W 9 t Try.underlying9 .i64 ((t.size - 4 : Nat) : Int) (by omega) (by omega)
      rw [Int.toNat_natCast] at this
      exact this
    have hsl4 : ∀ W, (Instr.slice 9 (.string t) (some (.int .i64 5)) (some (.int .i64 (wrap64 ((t.size : Int) - 4)))) none).run Try.prog W = .ok (.string (t.extract 5 (t.size - 4))) W := fun W => by
      rw [hw]
      have := run_slice_string (P := Try.prog) W 9 t .i64 .i64 5 ((t.size - 4 : Nat) : Int) Try.underlying9 (by omega) (by omega) (by omega)
      rw [Int.toNat_natCast] at this
      exact this
    have z2 : (t.extract (t.size - 4) t.size).size ≤ 4611686018427387904 := by rw [ByteArray.size_extract]; omega
    have z3 : (t.extract 0 (t.size - 4)).size ≤ 4611686018427387904 := by rw [ByteArray.size_extract]; omega
    have z4 : (t.extract 5 (t.size - 4)).size ≤ 4611686018427387904 := by rw [ByteArray.size_extract]; omega
    have hp : parseR t = if (rdNum (t.extract (t.size - 4) t.size) (0, 0) 4).1 ≠ Crc.sum (nums (t.extract 0 (t.size - 4))) then .error 4 else finR (progT (t.extract 5 (t.size - 4))) := by
      unfold parseR
      rw [if_neg h1, if_neg h2, if_neg (by simp [h3])]
    have hsum := fun W => sum_one (W : World).heap.size 0 1 (t.extract 0 (t.size - 4)) (W.alloc (.cells #[.string (t.extract 0 (t.size - 4))] 9)) (cell_of (heap_alloc_last W _) 0 _ rfl) (by simp) z3
    have hu := fun (W : World) (p : Nat) (h : RdIs W p (t.extract (t.size - 4) t.size) (0, 0)) => u32_r h (Nat.zero_le _) z2
    have ht := fun (W : World) (p : Nat) (h : RdIs W p (t.extract 5 (t.size - 4)) (0, 0)) => table_any h z4
    unfold NumPost at hu
    unfold TabPost at ht
    have hq : (rdNum (t.extract (t.size - 4) t.size) (0, 0) 4).1 < 4294967296 := rdNum_lt _ _ 4
    have hcs := crcsum_lt (t.extract 0 (t.size - 4))
    generalize rdNum (t.extract (t.size - 4) t.size) (0, 0) 4 = q at *
    generalize progT (t.extract 5 (t.size - 4)) = r at *
    generalize Crc.sum (nums (t.extract 0 (t.size - 4))) = cs at *
    generalize t.extract (t.size - 4) t.size = s2 at *
    generalize t.extract 0 (t.size - 4) = s3 at *
    generalize t.extract 5 (t.size - 4) = s4 at *
    have HP : Hid (parseR t = if q.1 ≠ cs then .error 4 else finR r) := hp
    have HU : Hid (∀ (W : World) (p : Nat), RdIs W p s2 (0, 0) → Calls Try.prog 60 #[pt p] W _) := hu
    have HT : Hid (∀ (W : World) (p : Nat), RdIs W p s4 (0, 0) → Calls Try.prog 61 #[pt p] W _) := ht
    have hn := newReader_any s2 w
    clear hu ht hp hs h1 h2 h3 hw z2 z3 z4
    by_cases hqc : q.1 = cs
    · have hd5 : ((q.1 : Int) == (cs : Int)) = true := by simp; omega
      have hpr := HP.out
      rw [if_neg (by simp [hqc])] at hpr
      have HPR : Hid (parseR t = finR r) := hpr
      rw [hpr]
      clear hpr hq hcs hqc HP
      go_enter Try.func29, Try.ntmps29
      go_wp2_with (first
        | (go_at_call 59; (with_reducible refine hn.mono ?_); rintro e w1 ⟨rfl, hr1, ht1, hz1⟩; have h60 := HU.out w1 _ hr1; have Z1 : Hid (Turned (fun _ => False) w w1 ∧ w1.heap.size = w.heap.size + 1) := ⟨ht1, hz1⟩; clear hr1 ht1 hz1 hn)
        | (go_at_call 60; (with_reducible refine h60.mono ?_); rintro e w2 ⟨rfl, hr2, ht2⟩; have Z2 : Hid (Turned (fun _ => False) w w2) := Z1.out.1.comp ht2 (fun i hi q => q.elim (fun q => q) (fun q => by omega)); have h47 := hsum w2; clear hr2 ht2 h60)
        | (go_at_call 47; (with_reducible refine h47.mono ?_); rintro e w3 ⟨rfl, ht3⟩; have Z3 : Hid (Turned (fun _ => False) w w3) := Z2.out.trans ((Turned.alloc (fun _ => False) w2 _).trans ht3 fun _ _ q => q) (fun _ _ q => q); have hn3 := newReader_any s4 w3; clear ht3 h47)
        | (go_at_call 59; (with_reducible refine hn3.mono ?_); rintro e w4 ⟨rfl, hr4, ht4, hz4⟩; have h61 := HT.out w4 _ hr4; have Z4 : Hid (Turned (fun _ => False) w w4 ∧ w4.heap.size = w3.heap.size + 1) := ⟨Z3.out.trans ht4 (fun _ _ q => q), hz4⟩; clear hr4 ht4 hz4 hn3))
      refine h61.mono ?_
      have hz := Z3.out.size
      have hz4 := Z4.out.2
      rintro e w5 ⟨ht5, ⟨hr, rfl⟩ | ⟨l, v, hr, rfl, hsl⟩⟩
      · have T5 : Hid (Turned (fun _ => False) w w5) := Z4.out.1.comp ht5 (fun i hi q => q.elim (fun q => q) fun q => by omega)
        subst hr
        clear ht5 h61
        go_wp2
        go_ret2
        exact ⟨T5.out, rfl⟩
      · have T5 : Hid (Turned (fun _ => False) w w5) := Z4.out.1.comp ht5 (fun i hi q => q.elim (fun q => q) fun q => by omega)
        have L5 : Hid (Sl w5 (fun b => w.heap.size ≤ b) 31 2 v (ccells l) l.length) := hsl.widen fun b q => by omega
        subst hr
        clear ht5 h61
        obtain ⟨a, cap, rfl, -, -⟩ := hsl.value
        clear hsl
        go_wp2
        go_ret2
        exact ⟨T5.out, _, rfl, L5.out⟩
    · have hd5 : ((q.1 : Int) == (cs : Int)) = false := by simp; omega
      have hpr := HP.out
      rw [if_pos hqc] at hpr
      rw [hpr]
      clear hpr hq hcs hqc HP
      go_enter Try.func29, Try.ntmps29
      go_wp2_with (first
        | (go_at_call 59; (with_reducible refine hn.mono ?_); rintro e w1 ⟨rfl, hr1, ht1, hz1⟩; have h60 := HU.out w1 _ hr1; have Z1 : Hid (Turned (fun _ => False) w w1 ∧ w1.heap.size = w.heap.size + 1) := ⟨ht1, hz1⟩; clear hr1 ht1 hz1 hn)
        | (go_at_call 60; (with_reducible refine h60.mono ?_); rintro e w2 ⟨rfl, hr2, ht2⟩; have Z2 : Hid (Turned (fun _ => False) w w2) := Z1.out.1.comp ht2 (fun i hi q => q.elim (fun q => q) (fun q => by omega)); have h47 := hsum w2; clear hr2 ht2 h60)
        | (go_at_call 47; (with_reducible refine h47.mono ?_); rintro e w3 ⟨rfl, ht3⟩; have Z3 : Hid (Turned (fun _ => False) w w3) := Z2.out.trans ((Turned.alloc (fun _ => False) w2 _).trans ht3 fun _ _ q => q) (fun _ _ q => q); clear ht3 h47))
      go_ret2
      exact ⟨Z3.out, rfl⟩
  · have HR : Hid (parseR t = .error 3) := by
      have : parseR t = .error 3 := by unfold parseR; rw [if_neg h1, if_neg h2, if_pos h3]
      exact this
    rw [HR.out]
    generalize t.extract 0 5 = m at *
    have hne := ba_ne m [80, 68, 71, 67, 1] h3
    clear hs h1 h2 hw h3
    go_enter Try.func29, Try.ntmps29
    go_wp2
    go_ret2
    exact ⟨Turned.refl _ _, rfl⟩
end Go.Proofs.Ytfeljngmidhajaa

namespace Go.Proofs.Ytfeljngmidhajaa
open Go.RowKit Go.Mine

/-- the document's reader of the text s at p -/
def RrIs (w : World) (p : Nat) (s : ByteArray) (st : Nat × Nat) : Prop :=
  Blk w p #[.string s, .int .i64 (st.1 : Nat), .int .i64 (st.2 : Nat)] 149
theorem RrIs.turned {w w' : World} {p : Nat} {s : ByteArray} {st : Nat × Nat} {S : Nat → Prop} (h : RrIs w p s st) (ht : Turned S w w') (hp : ¬ S p) : RrIs w' p s st := Blk.turned h ht hp

set_option maxRecDepth 100000 in
theorem rnew_any (s : ByteArray) (w : World) : Calls Try.prog 86 #[.string s] w fun e w' => e = .returned (pt w.heap.size) ∧ RrIs w' w.heap.size s (0, 0) ∧ Turned (fun _ => False) w w' ∧ w'.heap.size = w.heap.size + 1 := by
  go_enter Try.func86, Try.ntmps86
  go_wp2
  go_ret
  refine ⟨rfl, ?_, by simpa using Turned.alloc (fun _ => False) w _, by simp⟩
  exact heap_alloc_last w _

theorem rsetErr {w : World} {p : Nat} {s : ByteArray} {a e : Nat} (h : RrIs w p s (a, e)) (k : Nat) : RrIs (w.setCell ⟨p, 2, none⟩ (.int .i64 (k : Nat))) p s (a, k) := by
  have := Go.Mine.heap_setCell_same (o := 2) h (.int .i64 (k : Nat))
  exact this
theorem rsetAt {w : World} {p : Nat} {s : ByteArray} {a e : Nat} (h : RrIs w p s (a, e)) (k : Nat) : RrIs (w.setCell ⟨p, 1, none⟩ (.int .i64 (k : Nat))) p s (k, e) := by
  have := Go.Mine.heap_setCell_same (o := 1) h (.int .i64 (k : Nat))
  exact this

set_option maxRecDepth 100000 in
theorem rfail_r {w : World} {p : Nat} {s : ByteArray} {a e : Nat} (h : RrIs w p s (a, e)) (k : Nat) : Calls Try.prog 115 #[pt p, .int .i64 (k : Nat)] w fun x w' => x = .returned (.int .i64 (k : Nat)) ∧ RrIs w' p s (a, k) ∧ Turned (· = p) w w' := by
  have H : Hid (RrIs w p s (a, e)) := h
  have c2 := cell_of h 2 _ rfl
  have f2 := free_of h 2
  have hlt := lt_of_block h
  clear h
  go_enter Try.func115, Try.ntmps115
  go_wp2
  go_ret
  exact ⟨rfl, rsetErr H.out k, Turned.setCell (S := (· = p)) (p := ⟨p, 2, none⟩) rfl _⟩

set_option maxRecDepth 100000 in
theorem rleft_r {w : World} {p : Nat} {s : ByteArray} {st : Nat × Nat} (h : RrIs w p s st) (hat : st.1 ≤ s.size) (hs : s.size ≤ 4611686018427387904) : Calls Try.prog 114 #[pt p] w fun x w' => x = .returned (.int .i64 ((s.size - st.1 : Nat) : Int)) ∧ w' = w.drew := by
  have c0 := cell_of h 0 _ rfl
  have c1 := cell_of h 1 _ rfl
  have hlt := lt_of_block h
  have hw : wrap64 ((s.size : Int) - (st.1 : Int)) = ((s.size - st.1 : Nat) : Int) := by simp [wrap64]; omega
  have HW : Hid (wrap64 ((s.size : Int) - (st.1 : Int)) = ((s.size - st.1 : Nat) : Int)) := hw
  clear h hs hat hw
  go_enter Try.func114, Try.ntmps114
  go_wp2
  go_region
  all_goals go_wp2
  all_goals go_ret
  all_goals exact ⟨by rw [HW.out]; rfl, rfl⟩

def RfxRel (w1 : World) (s : ByteArray) (a n : Nat) (g : Nat) (v i : Value) (wr : World) : Prop :=
  ∃ j : Nat, j + g = n ∧ i = .int .i64 j ∧ v = .int .u64 (unnum ((s.data.toList.drop a).take j) : Nat) ∧ Turned (fun _ => False) w1 wr

set_option maxRecDepth 100000 in
set_option maxHeartbeats 1000000 in
theorem rnum_r {w : World} {p : Nat} {s : ByteArray} {st : Nat × Nat} (n : Nat) (h : RrIs w p s st) (hat : st.1 ≤ s.size) (hs : s.size ≤ 4611686018427387904) (hn : n ≤ 8) :
    Calls Try.prog 87 #[pt p, .int .i64 (n : Nat)] w fun e w' => e = .returned (.tuple #[.int .u64 ((rdNum s st n).1 : Nat), .int .i64 ((rdNum s st n).2.2 : Nat)]) ∧ RrIs w' p s (rdNum s st n).2 ∧ Turned (· = p) w w' := by
  obtain ⟨a, e⟩ := st
  have H : Hid (RrIs w p s (a, e)) := h
  have c0 := cell_of h 0 _ rfl
  have c1 := cell_of h 1 _ rfl
  have c2 := cell_of h 2 _ rfl
  have f1 := free_of h 1
  have hlt := lt_of_block h
  have hl := rleft_r h hat hs
  have hf := rfail_r (w := w.drew) (p := p) (s := s) (a := a) (e := e) (k := 2)
  simp only [List.getElem_toArray, List.getElem_cons_zero, List.getElem_cons_succ] at c0 c1 c2 hl
  by_cases h0 : e = 0
  · subst h0
    by_cases h1 : a + n ≤ s.size
    · have E : Hid (rdNum s (a, 0) n = (unnum ((s.data.toList.drop a).take n), (a + n, 0))) := by
        have e : rdNum s (a, 0) n = (unnum ((s.data.toList.drop a).take n), (a + n, 0)) := by
          unfold rdNum
          rw [rdRaw_good s a n h1]
          simp only [toList_extract, Nat.add_sub_cancel_left]
        exact e
      have hd : decide (((s.size - a : Nat) : Int) < (n : Int)) = false := by simp at hat ⊢; omega
      have hd1 : decide (s.size - a < n) = false := by simp at hat ⊢; omega
      have HB : Hid (a + n ≤ s.size ∧ n ≤ 8 ∧ s.size ≤ 4611686018427387904) := ⟨h1, hn, hs⟩
      clear hf h hs hn hat h1
      go_enter Try.func87, Try.ntmps87
      go_wp2_with (go_at_call 114; (with_reducible refine hl.mono ?_); rintro e w' ⟨rfl, rfl⟩)
      clear c0 c1 c2 f1
      go_loopg [6, 7] n (fun g v i wr => RfxRel w.drew s a n g v i wr)
      case atStart => exact ⟨0, Nat.zero_add _, rfl, rfl, Turned.refl _ _⟩
      case round =>
        obtain ⟨j, hjg, rfl, rfl, ht⟩ := hrel
        have T : Hid (Turned (fun _ => False) w.drew wr) := ht
        have hb : RrIs wr p s (a, 0) := RrIs.turned (w := w.drew) H.out ht fun q => q
        have c0 := cell_of hb 0 _ rfl
        have c1 := cell_of hb 1 _ rfl
        have c2 := cell_of hb 2 _ rfl
        have f1 := free_of hb 1
        have hlt := lt_of_block hb
        have B : Hid (RrIs wr p s (a, 0)) := hb
        simp only [List.getElem_toArray, List.getElem_cons_zero, List.getElem_cons_succ] at c0 c1 c2
        clear ht hb
        by_cases hjn : j < n
        · obtain ⟨y, hy⟩ : ∃ y, (s.data.toList.drop a)[j]? = some y := ⟨_, List.getElem?_eq_getElem (by have := HB.out; simp; omega)⟩
          have hidx : ∀ W, (Instr.index 9 (.string s) (.int .i64 (wrap64 ((a : Int) + (j : Int))))).run Try.prog W = .ok (.int .u8 (y.toNat : Nat)) W := by
            intro W
            have hb := HB.out
            rw [show wrap64 ((a : Int) + (j : Int)) = ((a + j : Nat) : Int) by simp [wrap64]; omega, run_index_string W 9 s .i64 _ Try.underlying9, dif_pos (by omega)]
            have hy2 : s.data.toList[a + j]? = some y := by rw [← hy, List.getElem?_drop]
            have hy3 : s[a + j]'(by omega) = y := by
              rw [Array.getElem?_toList] at hy2
              exact (Array.getElem?_eq_some_iff.1 hy2).2
            simp only [Int.toNat_natCast, hy3]
          have hx := unnum_next (s.data.toList.drop a) j y hy
          have hv : unnum ((s.data.toList.drop a).take j) < 72057594037927936 := by
            have h1 := unnum_lt ((s.data.toList.drop a).take j)
            have h2 : ((s.data.toList.drop a).take j).length ≤ 7 := by have := HB.out; simp; omega
            exact Nat.lt_of_lt_of_le h1 (Nat.pow_le_pow_right (by decide) h2)
          have HX : Hid (unnum ((s.data.toList.drop a).take (j + 1)) = unnum ((s.data.toList.drop a).take j) * 256 + y.toNat ∧ unnum ((s.data.toList.drop a).take j) < 72057594037927936 ∧ y.toNat < 256) := ⟨hx, hv, y.toNat_lt⟩
          clear hx hv hy
          generalize unnum ((s.data.toList.drop a).take j) = V at *
          generalize y.toNat = z at *
          go_wp2
          go_region
          all_goals go_wp2
          all_goals
            go_roundg (gk - 1)
            case measure => omega
            case rel =>
              have h1 := HB.out
              have h2 := HX.out
              have e2 : IntKind.u64.wrap (IntKind.u64.wrap ((V : Int) * 256) + IntKind.u64.wrap (z : Int)) = ((V * 256 + z : Nat) : Int) := by
                simp [IntKind.wrap, IntKind.bits, IntKind.signed]; omega
              refine ⟨j + 1, by omega, ?_, by rw [h2.1, e2], T.out.draw⟩
              rw [show wrap64 ((j : Int) + 1) = ((j + 1 : Nat) : Int) by simp [wrap64]; omega]
        · have hj : j = n := by omega
          subst hj
          have hw : wrap64 ((a : Int) + (j : Int)) = ((a + j : Nat) : Int) := by have := HB.out; simp [wrap64]; omega
          have HW : Hid (wrap64 ((a : Int) + (j : Int)) = ((a + j : Nat) : Int)) := hw
          clear hw
          go_wp2
          go_ret2
          have hst : RrIs (wr.setCell ⟨p, 1, none⟩ (.int .i64 (wrap64 ((a : Int) + (j : Int))))) p s (a + j, 0) := by rw [HW.out]; exact rsetAt B.out (a + j)
          refine ⟨by rw [E.out]; rfl, by rw [E.out]; exact hst, ?_⟩
          exact (((Turned.drew (· = p) w).trans (T.out.mono fun _ _ q => q.elim) fun _ _ q => q).trans (Turned.setCell (S := (· = p)) (p := ⟨p, 1, none⟩) rfl _) fun _ _ q => q)
    · have E : Hid (rdNum s (a, 0) n = (0, (a, 2))) := by
        unfold rdNum
        rw [rdRaw_short s a n (by omega)]
        rfl
      have hd : decide (((s.size - a : Nat) : Int) < (n : Int)) = true := by simp at hat ⊢; omega
      have hd1 : decide (s.size - a < n) = true := by simp at hat ⊢; omega
      have hf2 : Calls Try.prog 115 #[pt p, .int .i64 2] w.drew fun x w' => x = .returned (.int .i64 2) ∧ RrIs w' p s (a, 2) ∧ Turned (· = p) w.drew w' := hf h
      clear hf h hs hn hat h1
      go_enter Try.func87, Try.ntmps87
      go_wp2_with (first | (go_at_call 114; (with_reducible refine hl.mono ?_); rintro e w' ⟨rfl, rfl⟩) | (go_at_call 115; (with_reducible refine hf2.mono ?_); rintro e w' ⟨rfl, hr, ht⟩))
      go_ret2
      exact ⟨by rw [E.out]; rfl, by rw [E.out]; exact hr, (Turned.drew _ _).trans ht fun _ _ q => q⟩
  · have E : Hid (rdNum s (a, e) n = (0, (a, e))) := by
      unfold rdNum
      rw [rdRaw_bad s _ n h0]
      rfl
    have hd : ((e : Int) == 0) = false := by simp; omega
    clear hf h hs hn hat hl
    go_enter Try.func87, Try.ntmps87
    go_wp2
    go_region
    all_goals go_wp2
    all_goals go_ret2
    all_goals exact ⟨by rw [E.out]; rfl, by rw [E.out]; exact H.out, Turned.drew _ _⟩
end Go.Proofs.Ytfeljngmidhajaa

namespace Go.Proofs.Ytfeljngmidhajaa
open Go.RowKit Go.Mine

def RrawPost (w : World) (p : Nat) (s : ByteArray) (st : Nat × Nat) (n : Nat) (e : Ending) (w' : World) : Prop :=
  e = .returned (.tuple #[.string (rdRaw s st n).1, .int .i64 ((rdRaw s st n).2.2 : Nat)]) ∧ RrIs w' p s (rdRaw s st n).2 ∧ Turned (· = p) w w'

set_option maxRecDepth 100000 in
set_option maxHeartbeats 1000000 in
theorem rraw_r {w : World} {p : Nat} {s : ByteArray} {st : Nat × Nat} (n : Nat) (h : RrIs w p s st) (hat : st.1 ≤ s.size) (hs : s.size ≤ 4611686018427387904) (hn : n ≤ 4611686018427387904) : Calls Try.prog 88 #[pt p, .int .i64 (n : Nat)] w (RrawPost w p s st n) := by
  obtain ⟨a, e⟩ := st
  have H : Hid (RrIs w p s (a, e)) := h
  have c0 := cell_of h 0 _ rfl
  have c1 := cell_of h 1 _ rfl
  have c2 := cell_of h 2 _ rfl
  have f1 := free_of h 1
  have hlt := lt_of_block h
  have hl := rleft_r h hat hs
  have hf := rfail_r (w := w.drew) (p := p) (s := s) (a := a) (e := e) (k := 2)
  simp only [List.getElem_toArray, List.getElem_cons_zero, List.getElem_cons_succ] at c0 c1 c2 hl
  by_cases h0 : e = 0
  · subst h0
    have hd0 : decide ((n : Int) < 0) = false := by simp
    by_cases h1 : a + n ≤ s.size
    · have E : Hid (rdRaw s (a, 0) n = (s.extract a (a + n), (a + n, 0))) := rdRaw_good s a n h1
      have hd : decide (((s.size - a : Nat) : Int) < (n : Int)) = false := by simp at hat ⊢; omega
      have hd1 : decide (s.size - a < n) = false := by simp at hat ⊢; omega
      have hw : wrap64 ((a : Int) + (n : Int)) = ((a + n : Nat) : Int) := by simp [wrap64]; omega
      have HW : Hid (wrap64 ((a : Int) + (n : Int)) = ((a + n : Nat) : Int)) := hw
      have hsl : ∀ W, (Instr.slice 9 (.string s) (some (.int .i64 (a : Nat))) (some (.int .i64 (wrap64 ((a : Int) + (n : Int))))) none).run Try.prog W = .ok (.string (s.extract a (a + n))) W := by
        intro W
        rw [hw]
        have := run_slice_string (P := Try.prog) W 9 s .i64 .i64 a ((a + n : Nat) : Int) Try.underlying9 (by omega) (by omega) (by omega)
        rw [Int.toNat_natCast, Int.toNat_natCast] at this
        exact this
      clear hf h hs hn hat h1 hw
      go_enter Try.func88, Try.ntmps88
      go_wp2_with (go_at_call 114; (with_reducible refine hl.mono ?_); rintro e w' ⟨rfl, rfl⟩)
      go_region
      all_goals go_wp2
      all_goals go_ret2
      all_goals
        have hst : RrIs (w.setCell ⟨p, 1, none⟩ (.int .i64 (wrap64 ((a : Int) + (n : Int))))) p s (a + n, 0) := by rw [HW.out]; exact rsetAt H.out (a + n)
        refine ⟨by rw [E.out]; rfl, by rw [E.out]; exact hst, ?_⟩
        exact (((Turned.setCell (S := (· = p)) (p := ⟨p, 1, none⟩) rfl _).trans (Turned.drew _ _) fun _ _ q => q).trans (Turned.drew _ _) fun _ _ q => q)
    · have E : Hid (rdRaw s (a, 0) n = (⟨#[]⟩, (a, 2))) := rdRaw_short s a n (by omega)
      have hd : decide (((s.size - a : Nat) : Int) < (n : Int)) = true := by simp at hat ⊢; omega
      have hd1 : decide (s.size - a < n) = true := by simp at hat ⊢; omega
      have hf2 : Calls Try.prog 115 #[pt p, .int .i64 2] w.drew fun x w' => x = .returned (.int .i64 2) ∧ RrIs w' p s (a, 2) ∧ Turned (· = p) w.drew w' := hf h
      clear hf h hs hn hat h1
      go_enter Try.func88, Try.ntmps88
      go_wp2_with (first | (go_at_call 114; (with_reducible refine hl.mono ?_); rintro e w' ⟨rfl, rfl⟩) | (go_at_call 115; (with_reducible refine hf2.mono ?_); rintro e w' ⟨rfl, hr, ht⟩))
      go_ret2
      exact ⟨by rw [E.out]; rfl, by rw [E.out]; exact hr, (Turned.drew _ _).trans ht fun _ _ q => q⟩
  · have E : Hid (rdRaw s (a, e) n = (⟨#[]⟩, (a, e))) := rdRaw_bad s _ n h0
    have hd : ((e : Int) == 0) = false := by simp; omega
    clear hf h hs hn hat hl
    go_enter Try.func88, Try.ntmps88
    go_wp2
    go_region
    all_goals go_wp2
    all_goals go_ret2
    all_goals exact ⟨by rw [E.out]; rfl, by rw [E.out]; exact H.out, Turned.drew _ _⟩

end Go.Proofs.Ytfeljngmidhajaa

namespace Go.Proofs.Ytfeljngmidhajaa
open Go.RowKit Go.Mine

/-- what the document's Parse answers -/
def rparseR (t : ByteArray) : Except Nat (List Ch) :=
  if 4194304 < t.size then .error 5
  else if openR t ⟨#[80, 68, 71, 67, 1]⟩ ≠ 0 then .error (openR t ⟨#[80, 68, 71, 67, 1]⟩)
  else if buildErr (readT (t.extract 5 (t.size - 4))) ≠ 0 ∨ built (readT (t.extract 5 (t.size - 4))) ≠ t then .error 3
  else if ¬ Rising (readT (t.extract 5 (t.size - 4))) then .error 3
  else .ok (readT (t.extract 5 (t.size - 4)))

theorem adj_rising (l : List Ch) (h : ∀ i a b, l[i]? = some a → l[i + 1]? = some b → a.1 < b.1) : Rising l := by
  induction l with
  | nil => exact List.Pairwise.nil
  | cons c l ih =>
    have hr := ih fun i a b ha hb => h (i + 1) a b (by simpa using ha) (by simpa using hb)
    refine List.pairwise_cons.2 ⟨fun d hd => ?_, hr⟩
    cases l with
    | nil => simp at hd
    | cons e l =>
      have h0 := h 0 c e rfl rfl
      rcases List.mem_cons.1 hd with rfl | hd
      · exact h0
      · have := (List.pairwise_cons.1 hr).1 d hd; omega

def V1 (w : World) (p : Nat) (s : ByteArray) (st : Nat × Nat) (c : Nat) (g : Nat) (lv sv i : Value) (wr : World) : Prop :=
  ∃ (k : Nat) (S1 S2 : Nat → Prop), k + g = c ∧ i = .int .i64 k ∧ Sl wr S1 31 2 lv (ccells (bare (tabK s st k).1)) k ∧
    Sl wr S2 3 1 sv (icells (tabK s st k).1) k ∧ RrIs wr p s (tabK s st k).2 ∧ Turned (· = p) w wr ∧ Apart w wr S1 S2

def V2 (w : World) (p : Nat) (s : ByteArray) (st : Nat × Nat) (t : List (Nat × Nat)) (lv sv : Value) (g : Nat) (i : Value) (wr : World) : Prop :=
  ∃ (k : Nat) (S1 S2 : Nat → Prop), k + g = t.length ∧ i = .int .i64 k ∧ Sl wr S1 31 2 lv (ccells ((dat s st (t.take k)).1 ++ bare (t.drop k))) t.length ∧
    Sl wr S2 3 1 sv (icells t) t.length ∧ RrIs wr p s (dat s st (t.take k)).2 ∧ Turned (· = p) w wr ∧ Apart w wr S1 S2

def V3 (w : World) (l : List Ch) (g : Nat) (i : Value) (wr : World) : Prop :=
  ∃ k : Nat, (k + g = l.length ∨ (k = 1 ∧ g = 0 ∧ l.length = 0)) ∧ 1 ≤ k ∧ i = .int .i64 k ∧ (∀ i a b, i + 1 < k → l[i]? = some a → l[i + 1]? = some b → a.1 < b.1) ∧ Turned (fun _ => False) w wr

set_option maxRecDepth 100000 in
set_option maxHeartbeats 8000000 in
theorem rparse_any (t : ByteArray) (w : World) (hs : t.size ≤ 4611686018427387904) : Calls Try.prog 62 #[.string t] w (ParsePost w (rparseR t)) := by
  by_cases h1 : 4194304 < t.size
  · have hd : decide ((4194304 : Int) < (t.size : Int)) = true := by simp; omega
    have hd2 : decide (4194304 < t.size) = true := by simp; omega
    have HR : Hid (rparseR t = .error 5) := by
      have : rparseR t = .error 5 := by unfold rparseR; rw [if_pos h1]
      exact this
    rw [HR.out]
    clear hs h1
    go_enter Try.func62, Try.ntmps62
    go_wp2
    go_ret2
    exact ⟨Turned.refl _ _, rfl⟩
  have hd : decide ((4194304 : Int) < (t.size : Int)) = false := by simp; omega
  have hd2 : decide (4194304 < t.size) = false := by simp; omega
  have hop := opened_any t ⟨#[80, 68, 71, 67, 1]⟩ w hs
  by_cases h2 : openR t ⟨#[80, 68, 71, 67, 1]⟩ = 0
  · have hp : rparseR t = if buildErr (readT (t.extract 5 (t.size - 4))) ≠ 0 ∨ built (readT (t.extract 5 (t.size - 4))) ≠ t then .error 3
        else if ¬ Rising (readT (t.extract 5 (t.size - 4))) then .error 3 else .ok (readT (t.extract 5 (t.size - 4))) := by
      unfold rparseR
      rw [if_neg h1, if_neg (by simp [h2])]
    have h10 : 10 ≤ t.size := by
      unfold openR at h2
      split at h2
      · simp at h2
      · omega
    have hw : wrap64 ((t.size : Int) - 4) = ((t.size - 4 : Nat) : Int) := by simp [wrap64]; omega
    have hsl4 : ∀ W, (Instr.slice 9 (.string t) (some (.int .i64 5)) (some (.int .i64 (wrap64 ((t.size : Int) - 4)))) none).run Try.prog W = .ok (.string (t.extract 5 (t.size - 4))) W := fun W => by
      rw [hw]
      have := run_slice_string (P := Try.prog) W 9 t .i64 .i64 5 ((t.size - 4 : Nat) : Int) Try.underlying9 (by omega) (by omega) (by omega)
      rw [Int.toNat_natCast] at this
      exact this
    have z4 : (t.extract 5 (t.size - 4)).size ≤ 4194304 := by rw [ByteArray.size_extract]; omega
    rw [h2] at hop
    generalize t.extract 5 (t.size - 4) = s at *
    have HS : Hid (s.size ≤ 4194304) := z4
    have HP : Hid (rparseR t = if buildErr (readT s) ≠ 0 ∨ built (readT s) ≠ t then .error 3 else if ¬ Rising (readT s) then .error 3 else .ok (readT s)) := hp
    generalize rparseR t = R at *
    clear h1 h2 hp h10 hw z4
    obtain ⟨c, hc⟩ : ∃ c, c = rdNum s (0, 0) 1 := ⟨_, rfl⟩
    have hc256 : c.1 < 256 := by rw [hc]; exact rdNum_lt s (0, 0) 1
    have hcat : c.2.1 ≤ s.size := by rw [hc]; exact rdNum_at s (0, 0) 1 (Nat.zero_le _)
    have hn1 : ∀ W p, RrIs W p s (0, 0) → Calls Try.prog 87 #[pt p, .int .i64 1] W fun e w' => e = .returned (.tuple #[.int .u64 (c.1 : Nat), .int .i64 (c.2.2 : Nat)]) ∧ RrIs w' p s c.2 ∧ Turned (· = p) W w' := fun W p h => by
      have := rnum_r 1 h (Nat.zero_le _) (by have := HS.out; omega) (by omega)
      rw [← hc] at this
      exact this
    have HC : Hid (c = rdNum s (0, 0) 1 ∧ c.1 < 256 ∧ c.2.1 ≤ s.size) := ⟨hc, hc256, hcat⟩
    obtain ⟨n, st⟩ := c
    simp only at hn1 HC
    have HN1 : Hid (∀ W p, RrIs W p s (0, 0) → Calls Try.prog 87 #[pt p, .int .i64 1] W fun e w' => e = .returned (.tuple #[.int .u64 (n : Nat), .int .i64 (st.2 : Nat)]) ∧ RrIs w' p s st ∧ Turned (· = p) W w') := hn1
    clear hc hc256 hcat hn1 hs
    -- the rounds: none, where the count is too great
    obtain ⟨N, hN⟩ : ∃ N, N = if 16 < n then 0 else n := ⟨_, rfl⟩
    have HN : Hid (N = if 16 < n then 0 else n) := hN
    have HRD : Hid (readT s = (dat s (tabK s st N).2 (tabK s st N).1).1) := by
      have h1 := HC.out.1
      have : readT s = (dat s (tabK s st N).2 (tabK s st N).1).1 := by
        unfold readT
        simp only [← h1]
        rw [hN]
        split
        · rfl
        · rfl
      exact this
    have HN16 : Hid (N ≤ 16) := by
      have : N ≤ 16 := by rw [hN]; split <;> omega
      exact this
    clear hN
    go_enter Try.func62, Try.ntmps62
    have hnw := fun W => rnew_any s W
    go_wp2_with (first
      | (go_at_call 85; (with_reducible refine hop.mono ?_); rintro e w1 ⟨rfl, ht1⟩; have h86 := hnw w1)
      | (go_at_call 86; (with_reducible refine h86.mono ?_); rintro e w2 ⟨rfl, hr2, ht2, hz2⟩; have h87 := HN1.out w2 _ hr2; have Z2 : Hid (Turned (fun _ => False) w w2 ∧ w.heap.size ≤ w1.heap.size ∧ w1.heap.size < w2.heap.size) := ⟨ht1.trans ht2 (fun _ _ q => q), ht1.size, by omega⟩; generalize w1.heap.size = p at *; clear hr2 ht2 hz2 h86)
      | (go_at_call 87; (with_reducible refine h87.mono ?_); rintro e w3 ⟨rfl, hr3, ht3⟩; have Z3 : Hid (Turned (· = p) w2 w3 ∧ RrIs w3 p s st) := ⟨ht3, hr3⟩; clear hr3 ht3 h87))
    have HS1 : Hid (V1 w2 p s st N N (.slice none 0 0) (.slice none 0 0) (.int .i64 0) w3) :=
      ⟨0, fun _ => False, fun _ => False, by omega, rfl, Sl.nil _ _ _ _, Sl.nil _ _ _ _, Z3.out.2, Z3.out.1, ⟨fun _ q => q.elim, fun _ q => q.elim⟩⟩
    have HPW : Hid (p < w2.heap.size) := Z2.out.2.2
    go_loopg [8, 9, 10] N (fun g lv sv i wr => V1 w2 p s st N g lv sv i wr)
    case atStart => exact HS1.out
    case round =>
      obtain ⟨k, S1, S2, hkg, rfl, hsl1, hsl2, hrd, htw, hap⟩ := hrel
      have G : Hid (k + gk = N) := hkg
      have L1 : Hid (Sl wr S1 31 2 u8 (ccells (bare (tabK s st k).1)) k) := hsl1
      have L2 : Hid (Sl wr S2 3 1 u9 (icells (tabK s st k).1) k) := hsl2
      have RD : Hid (RrIs wr p s (tabK s st k).2) := hrd
      have TW : Hid (Turned (· = p) w2 wr) := htw
      have AP : Hid (Apart w2 wr S1 S2) := hap
      obtain ⟨a1, cap1, rfl, -, -⟩ := hsl1.value
      obtain ⟨a2, cap2, rfl, -, -⟩ := hsl2.value
      clear hkg hsl1 hsl2 hrd htw hap HS1 hop hnw
      by_cases hlt : k < N
      · have hn16 : ¬ 16 < n := fun q => by have := HN.out; rw [if_pos q] at this; omega
        have hNn : N = n := by have := HN.out; rw [if_neg hn16] at this; exact this
        have hda : decide ((k : Int) < (n : Int)) = true := by simp; omega
        have hda2 : decide (k < n) = true := by simp; omega
        have hdb : decide ((n : Int) ≤ 16) = true := by simp; omega
        have hdb2 : decide (n ≤ 16) = true := by simp; omega
        have hwn : wrap64 (n : Int) = (n : Int) := by simp [wrap64]; omega
        have hat := tabK_at s st k HC.out.2.2
        have hA : Calls Try.prog 87 #[pt p, .int .i64 4] wr _ := rnum_r 4 RD.out hat (by have := HS.out; omega) (by omega)
        have hB : ∀ w4, RrIs w4 p s (rdNum s (tabK s st k).2 4).2 → Calls Try.prog 87 #[pt p, .int .i64 4] w4 _ := fun w4 hr4 => rnum_r 4 hr4 (rdNum_at s _ 4 hat) (by have := HS.out; omega) (by omega)
        have TS : Hid ((tabK s st (k + 1)).1 = (tabK s st k).1 ++ [((rdNum s (tabK s st k).2 4).1, (rdNum s (rdNum s (tabK s st k).2 4).2 4).1)] ∧ (tabK s st (k + 1)).2 = (rdNum s (rdNum s (tabK s st k).2 4).2 4).2) := ⟨rfl, rfl⟩
        have hq1 := rdNum_lt s (tabK s st k).2 4
        have hq2 := rdNum_lt s (rdNum s (tabK s st k).2 4).2 4
        generalize (rdNum s (rdNum s (tabK s st k).2 4).2 4) = q2 at *
        generalize (rdNum s (tabK s st k).2 4) = q1 at *
        obtain ⟨id, st1⟩ := q1
        obtain ⟨sz, st2⟩ := q2
        simp only at hA hB TS hq1 hq2
        have HB : Hid (∀ w2, RrIs w2 p s st1 → Calls Try.prog 87 #[pt p, .int .i64 4] w2 fun e w' => e = .returned (.tuple #[.int .u64 (sz : Nat), .int .i64 (st2.2 : Nat)]) ∧ RrIs w' p s st2 ∧ Turned (· = p) w2 w') := hB
        have HQ : Hid (id < 4294967296 ∧ sz < 4294967296) := ⟨hq1, hq2⟩
        have hmi : ((id : Nat) : Int) % 4294967296 = (id : Int) := by omega
        have m1 : Hid (k + 1 ≤ maxLen ∧ (k + 1) * 24 ≤ 140737488355328 ∧ (k + 1) * 8 ≤ 140737488355328) := (by have := HN16.out; simp only [maxLen]; omega : k + 1 ≤ maxLen ∧ (k + 1) * 24 ≤ 140737488355328 ∧ (k + 1) * 8 ≤ 140737488355328)
        clear hat hB hq1 hq2 hn16 hNn
        have HW : Hid (wrap64 (sz : Int) = (sz : Int)) := (by have := HQ.out; simp [wrap64]; omega : wrap64 (sz : Int) = (sz : Int))
        go_wp2_with (first
          | (go_at_call 87; (with_reducible refine hA.mono ?_); rintro e w4 ⟨rfl, hr4, ht4⟩; have h87 := HB.out w4 hr4; have Z4 : Hid (Turned (· = p) wr w4) := ht4; clear hr4 ht4 hA)
          | (go_at_call 87; (with_reducible refine h87.mono ?_); rintro e w5 ⟨rfl, hr5, ht5⟩; have Z5 : Hid (Turned (· = p) wr w5 ∧ RrIs w5 p s st2) := ⟨Z4.out.trans ht5 (fun _ _ q => q), hr5⟩; have A1 : Hid (Sl (w5.alloc (.cells #[.int .u32 (id : Nat), .string ⟨#[]⟩] 31)) S1 31 2 (.slice a1 k cap1) (ccells (bare (tabK s st k).1)) k) := (L1.out.turned Z5.out.1 (fun b q z => by have := AP.out.1 b q; have := HPW.out; omega)).turned (Turned.alloc (fun _ => False) w5 _) (fun _ _ q => q); clear hr5 ht5 h87)
          | (at_builtin; first
            | (refine wpList_append rfl _ _ 22 22 rfl A1.out Try.underlying22 info31 rfl (by decide) rfl (.slice (some ⟨w5.heap.size, 0, none⟩) 1 1) rfl (src_ch (id, ⟨#[]⟩) w5) m1.out.1 m1.out.2.1 ?_; intro x6 w6 q1 t1; obtain ⟨a3, cap3, hv3, -, -⟩ := q1.value; subst hv3; have Q1 : Hid (Sl w6 (More S1 (w5.alloc (.cells #[.int .u32 (id : Nat), .string ⟨#[]⟩] 31))) 31 2 (.slice a3 (k + 1) cap3) (ccells (bare (tabK s st k).1) ++ ccells [(id, ⟨#[]⟩)]) (k + 1) ∧ Turned S1 (w5.alloc (.cells #[.int .u32 (id : Nat), .string ⟨#[]⟩] 31)) w6) := ⟨q1, t1⟩; have A2 : Hid (Sl (w6.alloc (.cells #[.int .i64 (wrap64 (sz : Int))] 3)) S2 3 1 (.slice a2 k cap2) (icells (tabK s st k).1) k) := (((L2.out.turned Z5.out.1 (fun b q z => by have := AP.out.2 b q; have := HPW.out; omega)).turned ((Turned.alloc S1 w5 (.cells #[.int .u32 (id : Nat), .string ⟨#[]⟩] 31)).trans t1 (fun _ _ q => q)) (fun b q z => (AP.out.1 b z).2.2 q)).turned (Turned.alloc (fun _ => False) w6 _) (fun _ _ q => q)); clear q1 t1)
            | (refine wpList_append rfl _ _ 57 57 rfl A2.out Try.underlying57 info3 rfl (by decide) rfl (.slice (some ⟨w6.heap.size, 0, none⟩) 1 1) rfl (src_one Try.underlying57 (.int .i64 (wrap64 (sz : Int))) rfl w6) m1.out.1 m1.out.2.2 ?_; intro x7 w7 q3 t3; obtain ⟨a5, cap5, hv5, -, -⟩ := q3.value; subst hv5; have Q3 : Hid (Sl w7 (More S2 (w6.alloc (.cells #[.int .i64 (wrap64 (sz : Int))] 3))) 3 1 (.slice a5 (k + 1) cap5) (icells (tabK s st k).1 ++ [.int .i64 (wrap64 (sz : Int))]) (k + 1) ∧ Turned S2 (w6.alloc (.cells #[.int .i64 (wrap64 (sz : Int))] 3)) w7) := ⟨q3, t3⟩; clear q3 t3)))
        go_roundg (gk - 1)
        case measure => have := G.out; omega
        case rel =>
          have g0 := TW.out.size
          have g1 := Z5.out.1.size
          have g2 := Q1.out.2.size
          have g3 := Q3.out.2.size
          have g4 : (w5.alloc (.cells #[.int .u32 (id : Nat), .string ⟨#[]⟩] 31)).heap.size = w5.heap.size + 1 := by simp
          have g5 : (w6.alloc (.cells #[.int .i64 (wrap64 (sz : Int))] 3)).heap.size = w6.heap.size + 1 := by simp
          have hap1 := AP.out.1
          have hap2 := AP.out.2
          have hp := HPW.out
          have k3 : Turned S2 w6 w7 := (Turned.alloc S2 w6 _).trans Q3.out.2 fun _ _ q => q
          have k1 : Turned S1 w5 w6 := (Turned.alloc S1 w5 _).trans Q1.out.2 fun _ _ q => q
          refine ⟨k + 1, fun b => More S1 (w5.alloc (.cells #[.int .u32 (id : Nat), .string ⟨#[]⟩] 31)) b ∧ b < w6.heap.size, fun b => More S2 (w6.alloc (.cells #[.int .i64 (wrap64 (sz : Int))] 3)) b ∧ b < w7.heap.size, by have := G.out; omega, ?_, ?_, ?_, ?_, ?_, ?_⟩
          · have := HN16.out; simp [wrap64]; omega
          · have q1 := Q1.out.1.bound
            have e1 : ccells (bare (tabK s st k).1) ++ ccells [(id, ⟨#[]⟩)] = ccells (bare (tabK s st (k + 1)).1) := by
              rw [TS.out.1, ← ccells_append]; simp [bare]
            rw [e1] at q1
            exact q1.turned k3 fun b q z => by
              have := (hap2 b z); have := q.1
              rcases q.1 with y | y
              · exact (hap1 b y).2.2 z
              · omega
          · have q3 := Q3.out.1.bound
            have e1 : icells (tabK s st k).1 ++ [.int .i64 (wrap64 (sz : Int))] = icells (tabK s st (k + 1)).1 := by
              rw [TS.out.1, HW.out]; simp [icells]
            rw [e1] at q3
            exact q3
          · rw [TS.out.2]
            exact ((Z5.out.2.turned k1 fun q => by have := hap1 p q; omega).turned k3 fun q => by have := hap2 p q; omega)
          · exact (((TW.out.trans Z5.out.1 fun _ _ q => q).comp k1 fun i hi q => q.elim (fun q => q) fun q => by have := hap1 i q; omega).comp k3 fun i hi q => q.elim (fun q => q) fun q => by have := hap2 i q; omega)
          · refine ⟨fun b q => ⟨?_, by omega, fun z => ?_⟩, fun b q => ⟨?_, q.2⟩⟩
            · rcases q.1 with y | y
              · exact (hap1 b y).1
              · omega
            · rcases z.1 with y | y
              · rcases q.1 with x | x
                · exact (hap1 b x).2.2 y
                · have := hap2 b y; omega
              · omega
            · rcases q.1 with y | y
              · exact (hap2 b y).1
              · omega
      · have hk : k = N := by have := G.out; omega
        subst hk
        clear hlt G
        have hcase : (decide ((k : Int) < (n : Int)) = false ∧ decide (k < n) = false) ∨ (decide ((k : Int) < (n : Int)) = true ∧ decide (k < n) = true ∧ decide ((n : Int) ≤ 16) = false ∧ decide (n ≤ 16) = false) := by
          have := HN.out
          by_cases q : 16 < n
          · rw [if_pos q] at this
            exact .inr ⟨by simp; omega, by simp; omega, by simp; omega, by simp; omega⟩
          · rw [if_neg q] at this
            exact .inl ⟨by simp; omega, by simp; omega⟩
        have hwn : wrap64 (n : Int) = (n : Int) := by have := HC.out.2.1; simp [wrap64]; omega
        have hat := tabK_at s st k HC.out.2.2
        have hlen := tabK_length s st k
        have HAT : Hid ((tabK s st k).2.1 ≤ s.size ∧ ∀ e ∈ (tabK s st k).1, e.1 < 4294967296 ∧ e.2 < 4294967296) := ⟨hat, tabK_lt s st k⟩
        clear hat
        generalize (tabK s st k).2 = st' at *
        generalize (tabK s st k).1 = tt at *
        have LN : Hid (tt.length = k) := hlen
        clear hlen
        have HS2 : Hid (V2 w2 p s st' tt (.slice a1 k cap1) (.slice a2 k cap2) k (.int .i64 0) wr) :=
          ⟨0, S1, S2, by rw [LN.out]; omega, rfl, by rw [LN.out]; simpa [dat] using L1.out, by rw [LN.out]; exact L2.out, RD.out, TW.out, AP.out⟩
        clear L1 L2 RD TW AP
        obtain ⟨wo, rfl⟩ : ∃ x : World, x = wr := ⟨wr, rfl⟩
        rcases hcase with ⟨hda, hda2⟩ | ⟨hda, hda2, hdb, hdb2⟩
        all_goals
          go_wp2
          go_loopg [15] k (fun g i wr => V2 w2 p s st' tt (.slice a1 k cap1) (.slice a2 k cap2) g i wr)
          case atStart => exact HS2.out
          case round =>
            obtain ⟨i, S3, S4, hig, rfl, hsl1, hsl2, hrd, htw, hap⟩ := hrel
            rw [LN.out] at hsl1 hsl2 hig
            have G : Hid (i + gk = k) := hig
            have L1 : Hid (Sl wr S3 31 2 (.slice a1 k cap1) (ccells ((dat s st' (tt.take i)).1 ++ bare (tt.drop i))) k) := hsl1
            have L2 : Hid (Sl wr S4 3 1 (.slice a2 k cap2) (icells tt) k) := hsl2
            have RD : Hid (RrIs wr p s (dat s st' (tt.take i)).2) := hrd
            have TW : Hid (Turned (· = p) w2 wr) := htw
            have AP : Hid (Apart w2 wr S3 S4) := hap
            clear hig hsl1 hsl2 hrd htw hap HS2 hda hda2 hwn
            have hat := dat_at s st' (tt.take i) HAT.out.1
            by_cases hlt : i < k
            · obtain ⟨e, he⟩ : ∃ e, tt[i]? = some e := ⟨_, List.getElem?_eq_getElem (by rw [LN.out]; exact hlt)⟩
              obtain ⟨g2, off2, cp2, hv2, -, -, -, hcl2, -, hg2⟩ := L2.out.opens (by omega)
              injection hv2 with e1 e2 e3
              subst e1
              subst e3
              have c0 : wr.cell? ⟨g2, off2 + i, none⟩ = some (.int .i64 (e.2 : Nat)) := by
                rw [hcl2 i (by omega)]; simp [icells, he]
              have hraw := rraw_r e.2 RD.out hat (by have := HS.out; omega) (by have := (HAT.out.2 e (List.mem_of_getElem? he)).2; omega)
              unfold RrawPost at hraw
              have HE : Hid (tt[i]? = some e) := he
              have hst : ∀ w4, Turned (· = p) wr w4 → ∃ g1 off1, a1 = some ⟨g1, off1, none⟩ ∧ S3 g1 ∧ g1 < w4.heap.size ∧ (∃ u, w4.cell? ⟨g1, off1 + i * 2 + 1, none⟩ = some u) ∧ w4.frozen? ⟨g1, off1 + i * 2 + 1, none⟩ = false := fun w4 t2 => by
                obtain ⟨g1, off1, cp1, hv1, hS, -, -, hcl1, hfr, hg1⟩ := (L1.out.turned t2 fun b q z => by have := AP.out.1 b q; have := HPW.out; omega).opens (by omega)
                injection hv1 with e1 e2 e3
                refine ⟨g1, off1, e1, hS, hg1, ?_, hfr _⟩
                have hlen2 := L1.out.1
                refine ⟨_, (hcl1 (i * 2 + 1) (by omega)).trans (List.getElem?_eq_getElem (by rw [hlen2]; omega))⟩
              have HST : Hid (∀ w4, Turned (· = p) wr w4 → ∃ g1 off1, a1 = some ⟨g1, off1, none⟩ ∧ S3 g1 ∧ g1 < w4.heap.size ∧ (∃ u, w4.cell? ⟨g1, off1 + i * 2 + 1, none⟩ = some u) ∧ w4.frozen? ⟨g1, off1 + i * 2 + 1, none⟩ = false) := hst
              have DS : Hid (dat s st' (tt.take (i + 1)) = ((dat s st' (tt.take i)).1 ++ [(e.1, (rdRaw s (dat s st' (tt.take i)).2 e.2).1)], (rdRaw s (dat s st' (tt.take i)).2 e.2).2)) := dat_take s st' tt i e he
              clear hcl2 hst he hat
              generalize rdRaw s (dat s st' (tt.take i)).2 e.2 = q at *
              obtain ⟨bd, stn⟩ := q
              simp only at hraw DS
              go_wp2_with (go_at_call 88; (with_reducible refine hraw.mono ?_); rintro e w4 ⟨rfl, hr2, ht2⟩; obtain ⟨g1, off1, rfl, hS1, hgl1, ⟨u, hu⟩, hfz⟩ := HST.out w4 ht2; have Z4 : Hid (Turned (· = p) wr w4 ∧ RrIs w4 p s stn ∧ S3 g1) := ⟨ht2, hr2, hS1⟩; clear ht2 hr2 hS1)
              go_roundg (gk - 1)
              case measure => have := G.out; omega
              case rel =>
                have hap1 := AP.out.1
                have hap2 := AP.out.2
                have hp := HPW.out
                have hgk := G.out
                have hsl3 := L1.out.turned Z4.out.1 fun b q z => by have := hap1 b q; omega
                obtain ⟨q1, q2, q3⟩ := hsl3.set (i * 2 + 1) (by omega) (.string bd)
                rw [← Nat.add_assoc] at q1 q2 q3
                have z1 := Z4.out.1.size
                refine ⟨i + 1, S3, S4, by rw [LN.out]; omega, by have := HN16.out; simp [wrap64]; omega, ?_, ?_, ?_, ?_, ?_⟩
                · rw [DS.out, LN.out]
                  have hdr : tt.drop i = e :: tt.drop (i + 1) := by
                    have hi := (List.getElem?_eq_some_iff.1 HE.out)
                    rw [List.drop_eq_getElem_cons hi.1, hi.2]
                  have hln : (dat s st' (tt.take i)).1.length = i := by rw [dat_length, List.length_take, LN.out]; omega
                  have h5 : bare (tt.drop i) = (e.1, ⟨#[]⟩) :: bare (tt.drop (i + 1)) := by rw [hdr]; rfl
                  rw [h5] at q1
                  have h6 := ccells_set (dat s st' (tt.take i)).1 e.1 ⟨#[]⟩ bd (bare (tt.drop (i + 1)))
                  rw [hln] at h6
                  rw [h6] at q1
                  exact q1
                · rw [LN.out]
                  exact ((L2.out.turned Z4.out.1 fun b q z => by have := hap2 b q; omega).turned q2 fun b q z => (hap1 b z).2.2 q)
                · rw [DS.out]
                  exact Z4.out.2.1.turned q2 fun q => by have := hap1 p q; omega
                · exact (TW.out.trans Z4.out.1 fun _ _ q => q).comp q2 fun i hi q => q.elim (fun q => q) fun q => by have := hap1 i q; omega
                · exact ⟨fun b q => ⟨(hap1 b q).1, by have := hap1 b q; omega, (hap1 b q).2.2⟩, fun b q => ⟨(hap2 b q).1, by have := hap2 b q; omega⟩⟩
            · have hi : i = k := by have := G.out; omega
              subst hi
              have htk : tt.take i = tt := List.take_of_length_le (by rw [LN.out]; exact Nat.le_refl _)
              have hdr : tt.drop i = [] := List.drop_of_length_le (by rw [LN.out]; exact Nat.le_refl _)
              have hl1 := L1.out
              rw [htk, hdr] at hl1
              obtain ⟨l, hl⟩ : ∃ l, l = (dat s st' tt).1 := ⟨_, rfl⟩
              have hrd : readT s = l := by rw [hl]; exact HRD.out
              have hli : l.length = i := by rw [hl, dat_length, LN.out]
              have hsm : Small l := by
                intro c hc
                have hids := dat_ids s st' tt
                rw [← hl] at hids
                have h1 : c.1 ∈ tt.map (·.1) := by rw [← hids]; exact List.mem_map.2 ⟨c, hc, rfl⟩
                obtain ⟨e, he, hec⟩ := List.mem_map.1 h1
                have h2 := dat_small s st' tt c (by rw [← hl]; exact hc)
                have := HS.out
                exact ⟨by rw [← hec]; exact (HAT.out.2 e he).1, by omega⟩
              have hl2 : Sl wr S3 31 2 (.slice a1 i cap1) (ccells l) l.length := by
                rw [hli, hl]
                simpa [bare] using hl1
              obtain ⟨a1', cap1', hv, hch⟩ := sl_chIs hl2 hsm
              injection hv with e1 e2 e3
              subst e1
              subst e3
              have hbd := rbuild_any a1 cap1 l wr hch
              have hpp := HP.out
              rw [hrd] at hpp
              have HL : Hid (l.length = i ∧ Sl wr S3 31 2 (.slice a1 i cap1) (ccells l) l.length ∧ ChIs wr a1 cap1 l) := ⟨hli, hl2, hch⟩
              have TW2 : Hid (Turned (fun _ => False) w wr) := Z2.out.1.comp TW.out fun i hi q => q.elim (fun q => q) fun q => by have := Z2.out.2; omega
              have hS3 : Hid (∀ b, S3 b → w.heap.size ≤ b) := fun b q => by have := (AP.out.1 b q).1; have := Z2.out.1.size; omega
              rw [hli] at hbd
              clear hl hrd hsm hl1 htk hdr hl2 hch hat hlt hli e2
              by_cases hbe : buildErr l = 0
              · have hbv : buildV l = .tuple #[.string (built l), .int .i64 0] := by unfold buildV; rw [hbe]; rfl
                rw [hbv] at hbd
                by_cases hbt : built l = t
                · rw [if_neg (by simp [hbe, hbt])] at hpp
                  rw [hbt] at hbd
                  have HPP : Hid (R = if ¬ Rising l then .error 3 else .ok l) := hpp
                  clear hbv hbt hpp hbe HP
                  go_wp2_with (go_at_call 18; (with_reducible refine hbd.mono ?_); rintro e w5 ⟨rfl, ht5⟩)
                  have Z5 : Hid (Turned (fun _ => False) wr w5) := ht5
                  have HS3 : Hid (V3 w5 l (i - 1) (.int .i64 1) w5) := ⟨1, by have := HL.out.1; omega, by omega, rfl, fun j a b hj => by omega, Turned.refl _ _⟩
                  clear hbd ht5
                  obtain ⟨wo2, rfl⟩ : ∃ x : World, x = wr := ⟨wr, rfl⟩
                  go_loopg [17] (i - 1) (fun g j wr => V3 w5 l g j wr)
                  case atStart => exact HS3.out
                  case round =>
                    obtain ⟨k, hkg, hk1, rfl, hadj, ht6⟩ := hrel
                    obtain ⟨m, rfl⟩ : ∃ m, k = m + 1 := ⟨k - 1, by omega⟩
                    have G3 : Hid (m + 1 + gk = l.length ∨ (m + 1 = 1 ∧ gk = 0 ∧ l.length = 0)) := hkg
                    have ADJ : Hid (∀ i a b, i + 1 < m + 1 → l[i]? = some a → l[i + 1]? = some b → a.1 < b.1) := hadj
                    have Z6 : Hid (Turned (fun _ => False) w5 wr) := ht6
                    clear hkg hadj ht6 hk1 HS3
                    by_cases hlt : m + 1 < i
                    · obtain ⟨ca, hca⟩ : ∃ c, l[m]? = some c := ⟨_, List.getElem?_eq_getElem (by have := HL.out.1; omega)⟩
                      obtain ⟨cb, hcb⟩ : ∃ c, l[m + 1]? = some c := ⟨_, List.getElem?_eq_getElem (by have := HL.out.1; omega)⟩
                      have hch := (HL.out.2.2.turned Z5.out).turned Z6.out
                      obtain ⟨b1, off1, rfl, hbw, c0, -⟩ := chIs_any hch m ca hca
                      obtain ⟨b2, off2, hbb, -, d0, -⟩ := chIs_any hch (m + 1) cb hcb
                      injection hbb with hbb
                      injection hbb with e1 e2
                      subst e1
                      subst e2
                      have HAB : Hid (l[m]? = some ca ∧ l[m + 1]? = some cb) := ⟨hca, hcb⟩
                      have hwm : wrap64 (m : Int) = (m : Int) := by have := HN16.out; simp [wrap64]; omega
                      have hlt3 : m < i := by omega
                      clear hch hca hcb
                      by_cases hab : ca.1 < cb.1
                      · have hd7 : decide ((cb.1 : Int) ≤ (ca.1 : Int)) = false := by simp; omega
                        have hd8 : decide (cb.1 ≤ ca.1) = false := by simp; omega
                        have HLT : Hid (ca.1 < cb.1) := hab
                        clear hab
                        go_wp2
                        go_region
                        all_goals go_wp2
                        all_goals
                          go_roundg (gk - 1)
                          case measure => have := G3.out; have := HL.out.1; omega
                          case rel =>
                            have h3 := G3.out
                            have h4 := HL.out.1
                            have h5 := HN16.out
                            refine ⟨m + 1 + 1, by omega, by omega, by simp [wrap64]; omega, fun j a b hj ha hb => ?_, Z6.out.draw⟩
                            rcases Nat.lt_or_eq_of_le (Nat.le_of_lt_succ hj) with q | q
                            · exact ADJ.out j a b q ha hb
                            · have : j = m := by omega
                              subst this
                              have ⟨x1, x2⟩ := HAB.out
                              rw [x1] at ha; rw [x2] at hb
                              obtain rfl := Option.some.inj ha
                              obtain rfl := Option.some.inj hb
                              exact HLT.out
                      · have hd7 : decide ((cb.1 : Int) ≤ (ca.1 : Int)) = true := by simp; omega
                        have hd8 : decide (cb.1 ≤ ca.1) = true := by simp; omega
                        have hnr : ¬ Rising l := fun q => by
                          have ⟨x1, x2⟩ := HAB.out
                          obtain ⟨y1, z1⟩ := List.getElem?_eq_some_iff.1 x1
                          obtain ⟨y2, z2⟩ := List.getElem?_eq_some_iff.1 x2
                          have := List.pairwise_iff_getElem.1 q m (m + 1) y1 y2 (by omega)
                          rw [z1, z2] at this
                          exact hab this
                        have hpp := HPP.out
                        rw [if_pos hnr] at hpp
                        have HRR : Hid (R = .error 3) := hpp
                        clear hnr hpp hab
                        go_wp2
                        go_region
                        all_goals go_wp2
                        all_goals go_ret2
                        all_goals exact ⟨((TW2.out.trans Z5.out fun _ _ q => q).trans Z6.out fun _ _ q => q).draw, by rw [HRR.out]; rfl⟩
                    · have hr : Rising l := adj_rising l fun j a b ha hb => by
                        have := (List.getElem?_eq_some_iff.1 hb).1
                        exact ADJ.out j a b (by have := HL.out.1; omega) ha hb
                      have hpp := HPP.out
                      rw [if_neg (by simpa using hr)] at hpp
                      have HRR : Hid (R = .ok l) := hpp
                      clear hr hpp
                      go_wp2
                      go_ret2
                      refine ⟨(TW2.out.trans Z5.out fun _ _ q => q).trans Z6.out fun _ _ q => q, ?_⟩
                      rw [HRR.out]
                      refine ⟨_, rfl, ?_⟩
                      have := (((HL.out.2.1).turned Z5.out fun _ _ q => q).turned Z6.out fun _ _ q => q).widen hS3.out
                      rw [HL.out.1] at this ⊢
                      exact this
                · rw [if_pos (by right; exact hbt)] at hpp
                  have hne := ba_ne2 _ _ hbt
                  have HRR : Hid (R = .error 3) := hpp
                  generalize built l = bl at *
                  clear hbv hbt hpp hbe HP
                  go_wp2_with (go_at_call 18; (with_reducible refine hbd.mono ?_); rintro e w5 ⟨rfl, ht5⟩)
                  go_ret2
                  exact ⟨TW2.out.trans ht5 fun _ _ q => q, by rw [HRR.out]; rfl⟩
              · have hbv : buildV l = .tuple #[.string ⟨#[]⟩, .int .i64 (buildErr l : Nat)] := by unfold buildV; rw [if_neg hbe]
                rw [hbv] at hbd
                rw [if_pos (by left; exact hbe)] at hpp
                have HRR : Hid (R = .error 3) := hpp
                generalize buildErr l = be at *
                have hd5 : ((be : Int) == 0) = false := by simp; omega
                clear hbv hpp HP
                go_wp2_with (go_at_call 18; (with_reducible refine hbd.mono ?_); rintro e w5 ⟨rfl, ht5⟩)
                go_ret2
                exact ⟨TW2.out.trans ht5 fun _ _ q => q, by rw [HRR.out]; rfl⟩
  · have HR : Hid (rparseR t = .error (openR t ⟨#[80, 68, 71, 67, 1]⟩)) := by
      have : rparseR t = .error (openR t ⟨#[80, 68, 71, 67, 1]⟩) := by unfold rparseR; rw [if_neg h1, if_pos h2]
      exact this
    rw [HR.out]
    generalize openR t ⟨#[80, 68, 71, 67, 1]⟩ = k at *
    have hd5 : ((k : Int) == 0) = false := by simp; omega
    clear hs h1 h2
    go_enter Try.func62, Try.ntmps62
    go_wp2_with (go_at_call 85; (with_reducible refine hop.mono ?_); rintro e w1 ⟨rfl, ht1⟩)
    go_ret2
    exact ⟨ht1, rfl⟩
end Go.Proofs.Ytfeljngmidhajaa

namespace Go.Proofs.Ytfeljngmidhajaa
open Go.RowKit Go.Mine

theorem ext_list {a b : ByteArray} (h : a.data.toList = b.data.toList) : a = b := ByteArray.ext (Array.toList_inj.1 h)

theorem front_split (t : ByteArray) (h10 : 10 ≤ t.size) (hm : t.extract 0 5 = ⟨#[80, 68, 71, 67, 1]⟩) : (t.extract 0 (t.size - 4)).data.toList = magicC ++ (t.extract 5 (t.size - 4)).data.toList := by
  have h1 : (t.extract 0 5).data.toList = magicC := by rw [hm]; rfl
  rw [toList_extract, List.drop_zero, Nat.sub_zero] at h1
  rw [toList_extract, toList_extract, List.drop_zero, Nat.sub_zero, ← h1]
  rw [show t.size - 4 = 5 + (t.size - 4 - 5) by omega, List.take_add]
  congr 2
  omega

theorem readT_lt (s : ByteArray) : ∀ c ∈ readT s, c.1 < 4294967296 := by
  unfold readT
  simp only
  split
  · intro c hc; simp at hc
  · intro c hc
    have hids := dat_ids s (tabK s (rdNum s (0, 0) 1).2 (rdNum s (0, 0) 1).1).2 (tabK s (rdNum s (0, 0) 1).2 (rdNum s (0, 0) 1).1).1
    have h1 : c.1 ∈ List.map (·.1) (dat s (tabK s (rdNum s (0, 0) 1).2 (rdNum s (0, 0) 1).1).2 (tabK s (rdNum s (0, 0) 1).2 (rdNum s (0, 0) 1).1).1).1 := List.mem_map.2 ⟨c, hc, rfl⟩
    rw [hids] at h1
    obtain ⟨e, he, hec⟩ := List.mem_map.1 h1
    rw [← hec]
    exact (tabK_lt s _ _ e he).1

theorem innerCh_length (l : List Ch) : (innerCh l).length = 1 + 8 * l.length + dataSize l := by
  simp [innerCh, num_length, tableCh_length, dataCh_length]
  omega
theorem bodyCh_inner (l : List Ch) : bodyCh l = magicC ++ innerCh l := by simp [bodyCh, innerCh]

theorem built_of_inner (t : ByteArray) (l : List Ch) (h10 : 10 ≤ t.size) (hm : t.extract 0 5 = ⟨#[80, 68, 71, 67, 1]⟩) (hse : sealed (t.extract 0 (t.size - 4)) = t) (hr : Rising l) (h : (t.extract 5 (t.size - 4)).data.toList = innerCh l) : built l = t := by
  unfold built
  rw [sortCh_rise l hr, bodyCh_inner]
  have h1 := front_split t h10 hm
  rw [h] at h1
  have h2 : t.extract 0 (t.size - 4) = ⟨(magicC ++ innerCh l).toArray⟩ := ext_list h1
  rw [← h2]
  exact hse

theorem inner_of_built (t : ByteArray) (l : List Ch) (hr : Rising l) (hb : built l = t) : (t.extract 5 (t.size - 4)).data.toList = innerCh l := by
  unfold built at hb
  rw [sortCh_rise l hr, bodyCh_inner, sealed_bytes] at hb
  have hz : t.size = 5 + (innerCh l).length + 4 := by
    rw [← hb]
    simp [ByteArray.size, num_length, magicC]
    omega
  rw [toList_extract, ← hb]
  simp only [hb, hz]
  rw [show 5 + (innerCh l).length + 4 - 4 - 5 = (innerCh l).length by omega, List.append_assoc]
  show List.take _ (List.drop 5 (magicC ++ (innerCh l ++ _))) = _
  rw [show (5 : Nat) = magicC.length from rfl, List.drop_left, List.take_left]

theorem parse_same (t : ByteArray) : parseR t = rparseR t := by
  unfold parseR rparseR openR
  by_cases h1 : 4194304 < t.size
  · rw [if_pos h1, if_pos h1]
  rw [if_neg h1, if_neg h1]
  by_cases h2 : t.size < 10
  · simp [h2]
  simp only [if_neg h2]
  by_cases h3 : t.extract 0 5 = ⟨#[80, 68, 71, 67, 1]⟩
  · simp only [h3, ne_eq, not_true_eq_false, if_false]
    have hsi := sealed_iff t (by omega)
    by_cases h4 : sealed (t.extract 0 (t.size - 4)) = t
    · have h5 := hsi.1 h4
      simp only [h4, h5, not_true_eq_false, if_false]
      cases hp : progT (t.extract 5 (t.size - 4)) with
      | some l =>
        obtain ⟨p1, p2, p3, p4, p5⟩ := progT_some _ l hp
        have hb := built_of_inner t l (by omega) h3 h4 p1 p4
        have hz : (t.extract 5 (t.size - 4)).size = (innerCh l).length := by rw [← p4, Array.length_toList]; rfl
        rw [ByteArray.size_extract, innerCh_length] at hz
        have he : buildErr l = 0 := (buildErr_iff l).2 ⟨p3, checkCh_of l [] (by simpa using rising_nodup l p1) p2, by omega⟩
        rw [p5]
        simp [finR, he, hb, p1]
      | none =>
        simp only [finR]
        by_cases h6 : buildErr (readT (t.extract 5 (t.size - 4))) = 0 ∧ built (readT (t.extract 5 (t.size - 4))) = t
        · by_cases h7 : Rising (readT (t.extract 5 (t.size - 4)))
          · exfalso
            obtain ⟨b1, b2, b3⟩ := (buildErr_iff _).1 h6.1
            have h8 := inner_of_built t _ h7 h6.2
            have h9 := progT_of (t.extract 5 (t.size - 4)) _ h7 (checkCh_ok _ [] b2 (by simp)).2 b1 (fun c hc => ⟨readT_lt _ c hc, by have := size_le_data _ c hc; omega⟩) h8
            rw [hp] at h9
            simp at h9
          · simp [h6.1, h6.2, h7]
        · have h8 : buildErr (readT (t.extract 5 (t.size - 4))) ≠ 0 ∨ built (readT (t.extract 5 (t.size - 4))) ≠ t := by
            apply Classical.byContradiction
            intro q
            exact h6 ⟨Classical.byContradiction fun z => q (Or.inl z), Classical.byContradiction fun z => q (Or.inr z)⟩
          simp only [ne_eq] at h8
          simp [h8]
    · have h5 : ¬ (rdNum (t.extract (t.size - 4) t.size) (0, 0) 4).1 = Crc.sum (nums (t.extract 0 (t.size - 4))) := fun q => h4 (hsi.2 q)
      simp [h4, h5]
  · simp [h3]
end Go.Proofs.Ytfeljngmidhajaa

namespace Go.Proofs.Ytfeljngmidhajaa
open Go.RowKit Go.Mine

theorem parse_small (t : ByteArray) (l : List Ch) (h : parseR t = .ok l) : Small l ∧ l.length ≤ 16 ∧ buildErr l = 0 ∧ built l = t ∧ Rising l := by
  rw [parse_same] at h
  unfold rparseR at h
  split at h
  · simp at h
  split at h
  · simp at h
  split at h
  · simp at h
  · rename_i h3
    split at h
    · simp at h
    · rename_i h4
      have hl : readT (t.extract 5 (t.size - 4)) = l := by simpa using h
      rw [hl] at h3 h4
      have hbe : buildErr l = 0 := Classical.byContradiction fun q => h3 (.inl q)
      have hbt : built l = t := Classical.byContradiction fun q => h3 (.inr q)
      have hr : Rising l := Classical.byContradiction fun q => h4 q
      obtain ⟨b1, b2, b3⟩ := (buildErr_iff l).1 hbe
      refine ⟨fun c hc => ⟨?_, ?_⟩, b1, hbe, hbt, hr⟩
      · rw [← hl] at hc; exact readT_lt _ c hc
      · have := size_le_data l c hc; omega

def SpRel (w : World) (S : Nat → Prop) (v : Value) (n : Nat) (g : Nat) (i : Value) (wr : World) : Prop :=
  ∃ (k : Nat) (xs : List Value), k + g = n ∧ i = .int .i64 k ∧ Sl wr S 31 2 v xs n ∧ Turned S w wr

theorem src_97 (w : World) : Src Try.prog 2 22 (.slice (some ⟨w.heap.size, 0, none⟩) 1 1) 1 [.int .u32 97, .string ⟨#[]⟩] (w.alloc (.cells #[.int .u32 97, .string ⟨#[]⟩] 31)) := src_ch (97, ⟨#[]⟩) w

set_option maxRecDepth 100000 in
set_option maxHeartbeats 4000000 in
theorem parsed_any (t : ByteArray) (w : World) (hs : t.size ≤ 4611686018427387904) : Calls Try.prog 30 #[.string t] w fun e w' => e = .returned (.bool true) ∧ Turned (fun _ => False) w w' := by
  have hP1 := fun W => parse_any t W hs
  have hP2 := fun W => rparse_any t W hs
  rw [← parse_same] at hP2
  have hsm := parse_small t
  cases hR : parseR t with
  | error k =>
    rw [hR] at hP1 hP2
    have P1 : Hid (∀ W, Calls Try.prog 29 #[.string t] W fun e w' => Turned (fun _ => False) W w' ∧ e = .returned (.tuple #[.slice none 0 0, .int .i64 (k : Nat)])) := hP1
    have P2 : Hid (∀ W, Calls Try.prog 62 #[.string t] W fun e w' => Turned (fun _ => False) W w' ∧ e = .returned (.tuple #[.slice none 0 0, .int .i64 (k : Nat)])) := hP2
    have SM : Hid (∀ W, Calls Try.prog 19 #[.slice none 0 0, .slice none 0 0] W fun e w' => e = .returned (.bool true) ∧ Turned (fun _ => False) W w') := fun W => same_list none none 0 0 [] W ⟨Nat.le_refl _, by simp [maxLen], fun c hc => by simp at hc, fun h => by simp at h⟩ ⟨Nat.le_refl _, by simp [maxLen], fun c hc => by simp at hc, fun h => by simp at h⟩
    have h29 := P1.out w
    have m1 : Hid (0 + 1 ≤ maxLen ∧ (0 + 1) * 24 ≤ 140737488355328) := (by simp [maxLen] : 0 + 1 ≤ maxLen ∧ (0 + 1) * 24 ≤ 140737488355328)
    clear hP1 hP2 hs hsm hR
    go_enter Try.func30, Try.ntmps30
    go_wp2_with (first
      | (go_at_call 29; (with_reducible refine h29.mono ?_); rintro e w1 ⟨ht1, rfl⟩; have T1 : Hid (Turned (fun _ => False) w w1) := ht1; have h62 := P2.out w1; clear ht1 h29)
      | (go_at_call 62; (with_reducible refine h62.mono ?_); rintro e w2 ⟨ht2, rfl⟩; have T2 : Hid (Turned (fun _ => False) w w2) := T1.out.trans ht2 (fun _ _ q => q); have h19 := SM.out w2; clear ht2 h62)
      | (go_at_call 19; (with_reducible refine h19.mono ?_); rintro e w3 ⟨rfl, ht3⟩; have T3 : Hid (Turned (fun _ => False) w w3) := T2.out.trans ht3 (fun _ _ q => q); clear ht3 h19))
    go_loopg [31] 0 (fun g i wr => i = .int .i64 0 ∧ w3 = wr)
    case atStart => exact ⟨rfl, rfl⟩
    case round =>
      obtain ⟨rfl, rfl⟩ := hrel
      go_wp2_with (first
        | (at_builtin; refine wpList_append rfl _ _ 22 22 rfl (Sl.nil _ (fun _ => False) 31 2) Try.underlying22 info31 rfl (by decide) rfl (.slice (some ⟨w3.heap.size, 0, none⟩) 1 1) rfl (src_97 w3) m1.out.1 m1.out.2 ?_; intro x4 w4 q1 t1; have T4 : Hid (Turned (fun _ => False) w w4) := (T3.out.new _).trans t1 (fun _ _ q => q); have h29 := P1.out w4; clear q1 t1)
        | (go_at_call 29; (with_reducible refine h29.mono ?_); rintro e w5 ⟨ht5, rfl⟩; have T5 : Hid (Turned (fun _ => False) w w5) := T4.out.trans ht5 (fun _ _ q => q); have h19 := SM.out w5; clear ht5 h29)
        | (go_at_call 19; (with_reducible refine h19.mono ?_); rintro e w6 ⟨rfl, ht6⟩; have T6 : Hid (Turned (fun _ => False) w w6) := T5.out.trans ht6 (fun _ _ q => q); clear ht6 h19))
      go_ret
      exact ⟨rfl, T6.out⟩
  | ok l =>
    obtain ⟨hsl, hl16, -, -, -⟩ := hsm l hR
    rw [hR] at hP1 hP2
    have P1 : Hid (∀ W, Calls Try.prog 29 #[.string t] W fun e w' => Turned (fun _ => False) W w' ∧ ∃ v, e = .returned (.tuple #[v, .int .i64 0]) ∧ Sl w' (fun b => W.heap.size ≤ b) 31 2 v (ccells l) l.length) := hP1
    have P2 : Hid (∀ W, Calls Try.prog 62 #[.string t] W fun e w' => Turned (fun _ => False) W w' ∧ ∃ v, e = .returned (.tuple #[v, .int .i64 0]) ∧ Sl w' (fun b => W.heap.size ≤ b) 31 2 v (ccells l) l.length) := hP2
    have SM : Hid (∀ W S1 S2 (a b : Option Addr) (cap cap2 : Nat), Sl W S1 31 2 (.slice a l.length cap) (ccells l) l.length → Sl W S2 31 2 (.slice b l.length cap2) (ccells l) l.length →
        Calls Try.prog 19 #[.slice a l.length cap, .slice b l.length cap2] W fun e w' => e = .returned (.bool true) ∧ Turned (fun _ => False) W w') := fun W S1 S2 a b cap cap2 h1 h2 => by
      obtain ⟨a', cap', hv, hc1⟩ := sl_chIs h1 hsl
      obtain ⟨b', cap2', hv2, hc2⟩ := sl_chIs h2 hsl
      injection hv with e1 _ e3
      injection hv2 with e4 _ e6
      subst e1; subst e3; subst e4; subst e6
      exact same_list _ _ _ _ l W hc1 hc2
    obtain ⟨L, hL⟩ : ∃ L, L = l.length := ⟨_, rfl⟩
    rw [← hL] at P1 P2 SM hl16
    have H16 : Hid (L ≤ 16) := hl16
    have h29 := P1.out w
    have m1 : Hid (L + 1 ≤ maxLen ∧ (L + 1) * 24 ≤ 140737488355328) := (by simp only [maxLen]; omega : L + 1 ≤ maxLen ∧ (L + 1) * 24 ≤ 140737488355328)
    have HL : Hid (L = l.length) := hL
    clear hP1 hP2 hs hsm hR hsl hl16 hL
    go_enter Try.func30, Try.ntmps30
    go_wp2_with (first
      | (go_at_call 29; (with_reducible refine h29.mono ?_); rintro e w1 ⟨ht1, v1, rfl, hs1⟩; obtain ⟨a1, cap1, rfl, -, -⟩ := hs1.value; have T1 : Hid (Turned (fun _ => False) w w1 ∧ Sl w1 (fun b => w.heap.size ≤ b ∧ b < w1.heap.size) 31 2 (.slice a1 L cap1) (ccells l) L) := ⟨ht1, hs1.bound⟩; have h62 := P2.out w1; clear ht1 h29 hs1)
      | (go_at_call 62; (with_reducible refine h62.mono ?_); rintro e w2 ⟨ht2, v2, rfl, hs2⟩; obtain ⟨a2, cap2, rfl, -, -⟩ := hs2.value; have T2 : Hid (Turned (fun _ => False) w w2 ∧ Sl w2 (fun b => w.heap.size ≤ b ∧ b < w1.heap.size) 31 2 (.slice a1 L cap1) (ccells l) L ∧ Sl w2 (fun b => w1.heap.size ≤ b) 31 2 (.slice a2 L cap2) (ccells l) L) := ⟨T1.out.1.trans ht2 (fun _ _ q => q), T1.out.2.turned ht2 (fun _ _ q => q), hs2⟩; have h19 := SM.out w2 _ _ _ _ _ _ T2.out.2.1 T2.out.2.2; clear ht2 h62 hs2)
      | (go_at_call 19; (with_reducible refine h19.mono ?_); rintro e w3 ⟨rfl, ht3⟩; have T3 : Hid (Turned (fun _ => False) w w3 ∧ Sl w3 (fun b => w.heap.size ≤ b ∧ b < w1.heap.size) 31 2 (.slice a1 L cap1) (ccells l) L ∧ Sl w3 (fun b => w1.heap.size ≤ b) 31 2 (.slice a2 L cap2) (ccells l) L) := ⟨T2.out.1.trans ht3 (fun _ _ q => q), T2.out.2.1.turned ht3 (fun _ _ q => q), T2.out.2.2.turned ht3 (fun _ _ q => q)⟩; clear ht3 h19))
    have HS0 : Hid (SpRel w3 (fun b => w.heap.size ≤ b ∧ b < w1.heap.size) (.slice a1 L cap1) L L (.int .i64 0) w3) := ⟨0, _, by omega, rfl, T3.out.2.1, Turned.refl _ _⟩
    go_loopg [31] L (fun g i wr => SpRel w3 (fun b => w.heap.size ≤ b ∧ b < w1.heap.size) (.slice a1 L cap1) L g i wr)
    case atStart => exact HS0.out
    case round =>
      obtain ⟨k, xs, hkg, rfl, hsx, htx⟩ := hrel
      have G : Hid (k + gk = L) := hkg
      have SX : Hid (Sl wr (fun b => w.heap.size ≤ b ∧ b < w1.heap.size) 31 2 (.slice a1 L cap1) xs L) := hsx
      have TX : Hid (Turned (fun b => w.heap.size ≤ b ∧ b < w1.heap.size) w3 wr) := htx
      clear hkg hsx htx HS0
      by_cases hlt : k < L
      · obtain ⟨g, off, cp, hv, hS, -, -, hcl, hfr, hgl⟩ := SX.out.opens (by omega)
        injection hv with e1 e2 e3
        subst e1
        subst e3
        have hxl := SX.out.1
        have c0 := (hcl (k * 2) (by omega)).trans (List.getElem?_eq_getElem (by omega))
        have c1 := (hcl (k * 2 + 1) (by omega)).trans (List.getElem?_eq_getElem (by omega))
        have f0 := hfr (off + k * 2)
        have f1 := hfr (off + k * 2 + 1)
        rw [← Nat.add_assoc] at c1
        generalize xs[k * 2] = x0 at c0
        generalize xs[k * 2 + 1] = x1 at c1
        clear hcl hfr hxl e2
        go_wp2
        go_roundg (gk - 1)
        case measure => have := G.out; omega
        case rel =>
          have hgk := G.out
          obtain ⟨q1, q2, q3⟩ := SX.out.set (k * 2) (by omega) (.int .u32 98)
          obtain ⟨r1, r2, r3⟩ := q1.set (k * 2 + 1) (by omega) (.string ⟨#[]⟩)
          rw [← Nat.add_assoc] at r1 r2 r3
          exact ⟨k + 1, _, by omega, by have := H16.out; simp [wrap64]; omega, r1, (TX.out.trans q2 fun _ _ q => q).trans r2 fun _ _ q => q⟩
      · have hk : k = L := by have := G.out; omega
        subst hk
        have A1 : Hid (Sl (wr.alloc (.cells #[.int .u32 97, .string ⟨#[]⟩] 31)) (fun b => w.heap.size ≤ b ∧ b < w1.heap.size) 31 2 (.slice a1 k cap1) xs k) := SX.out.turned (Turned.alloc (fun _ => False) wr _) fun _ _ q => q
        have B3 : Hid (Sl wr (fun b => w1.heap.size ≤ b) 31 2 (.slice a2 k cap2) (ccells l) k) := T3.out.2.2.turned TX.out fun b q z => by omega
        clear hlt
        go_wp2_with (first
          | (at_builtin; refine wpList_append rfl _ _ 22 22 rfl A1.out Try.underlying22 info31 rfl (by decide) rfl (.slice (some ⟨wr.heap.size, 0, none⟩) 1 1) rfl (src_97 wr) m1.out.1 m1.out.2 ?_; intro x4 w4 q1 t1; have T4 : Hid (Turned (fun b => w.heap.size ≤ b ∧ b < w1.heap.size) wr w4) := (Turned.alloc (fun b => w.heap.size ≤ b ∧ b < w1.heap.size) wr _).trans t1 (fun _ _ q => q); have B4 : Hid (Sl w4 (fun b => w1.heap.size ≤ b) 31 2 (.slice a2 k cap2) (ccells l) k) := B3.out.turned T4.out (fun b q z => by omega); have h29 := P1.out w4; clear q1 t1)
          | (go_at_call 29; (with_reducible refine h29.mono ?_); rintro e w5 ⟨ht5, v5, rfl, hs5⟩; obtain ⟨a5, cap5, rfl, -, -⟩ := hs5.value; have T5 : Hid (Turned (fun _ => False) w4 w5) := ht5; have h19 := SM.out w5 _ _ _ _ _ _ hs5 (B4.out.turned T5.out fun _ _ q => q); clear ht5 h29 hs5)
          | (go_at_call 19; (with_reducible refine h19.mono ?_); rintro e w6 ⟨rfl, ht6⟩))
        go_ret
        have z1 := T1.out.1.size
        have k1 : Turned (fun _ => False) w w4 := (T3.out.1.comp TX.out (T := fun _ => False) fun i hi q => q.elim (fun q => q) fun q => by omega).comp T4.out fun i hi q => q.elim (fun q => q) fun q => by omega
        exact ⟨rfl, (k1.trans T5.out fun _ _ q => q).trans ht6 fun _ _ q => q⟩
end Go.Proofs.Ytfeljngmidhajaa

namespace Go.Proofs.Ytfeljngmidhajaa
open Go.RowKit Go.Mine

theorem ext_listT {a b : ByteArray} (h : a.data.toList = b.data.toList) : a = b := ByteArray.ext (Array.toList_inj.1 h)

/-- the text with byte k in the place of what was there -/
def setB (t : ByteArray) (k : Nat) (z : UInt8) : ByteArray := ⟨(t.data.toList.set k z).toArray⟩
theorem setB_size (t : ByteArray) (k : Nat) (z : UInt8) : (setB t k z).size = t.size := by
  show ((t.data.toList.set k z).toArray).size = t.data.size
  simp
theorem setB_list (t : ByteArray) (k : Nat) (z : UInt8) : (setB t k z).data.toList = t.data.toList.set k z := by simp [setB]

theorem turned_not_sealed (s : ByteArray) (k : Nat) (z : UInt8) (hk : k < (sealed s).size) (hz : (sealed s).data.toList[k]? ≠ some z) :
    sealed ((setB (sealed s) k z).extract 0 ((setB (sealed s) k z).size - 4)) ≠ setB (sealed s) k z := by
  intro h
  rw [setB_size] at h
  have hss := sealed_size s
  have hl : (sealed s).data.toList = s.data.toList ++ num (Crc.sum (nums s)) 4 := by unfold sealed; simp
  have hsl : s.data.toList.length = s.size := by simp
  have hfr : ((setB (sealed s) k z).extract 0 ((sealed s).size - 4)).data.toList = ((s.data.toList ++ num (Crc.sum (nums s)) 4).set k z).take s.size := by
    rw [toList_extract, List.drop_zero, Nat.sub_zero, setB_list, hl, hss]
    congr 1
  by_cases hks : k < s.size
  · -- ahead of the sum
    have hfr2 : ((setB (sealed s) k z).extract 0 ((sealed s).size - 4)).data.toList = s.data.toList.set k z := by
      rw [hfr, List.set_append_left _ _ (by omega), ← hsl]
      have : s.data.toList.length = (s.data.toList.set k z).length := by simp
      rw [this, List.take_left]
    obtain ⟨f, hf⟩ : ∃ f, f = (setB (sealed s) k z).extract 0 ((sealed s).size - 4) := ⟨_, rfl⟩
    rw [← hf] at h hfr2
    have h2 := congrArg (fun b : ByteArray => b.data.toList) h
    have hl2 : (sealed f).data.toList = f.data.toList ++ num (Crc.sum (nums f)) 4 := by unfold sealed; simp
    simp only [hl2, setB_list, hl] at h2
    rw [List.set_append_left _ _ (by omega), hfr2] at h2
    have h3 := List.append_cancel_left h2
    have h4 := num_inj h3
    have c1 := crcsum_lt f
    have c2 := crcsum_lt s
    rw [Nat.mod_eq_of_lt (by omega), Nat.mod_eq_of_lt (by omega)] at h4
    rw [crcsum_eq, crcsum_eq] at h4
    have f1 := feed_nums_lt 4294967295 f (by decide)
    have f2 := feed_nums_lt 4294967295 s (by decide)
    have h5 : Crc.feed 4294967295 (nums f) = Crc.feed 4294967295 (nums s) := by omega
    obtain ⟨x, hx⟩ : ∃ x, s.data.toList[k]? = some x := ⟨_, List.getElem?_eq_getElem (by omega)⟩
    have hxz : x ≠ z := by
      intro q
      apply hz
      rw [hl, List.getElem?_append_left (by omega), hx, q]
    have hsp : s.data.toList = s.data.toList.take k ++ x :: s.data.toList.drop (k + 1) := by
      have hi := List.getElem?_eq_some_iff.1 hx
      have := List.drop_eq_getElem_cons hi.1
      rw [hi.2] at this
      rw [← this, List.take_append_drop]
    have hsz : s.data.toList.set k z = s.data.toList.take k ++ z :: s.data.toList.drop (k + 1) := by
      rw [List.set_eq_take_append_cons_drop, if_pos (by omega)]
    have n1 : nums f = (s.data.toList.take k).map (·.toNat) ++ z.toNat :: (s.data.toList.drop (k + 1)).map (·.toNat) := by
      unfold nums; rw [hfr2, hsz]; simp
    have n2 : nums s = (s.data.toList.take k).map (·.toNat) ++ x.toNat :: (s.data.toList.drop (k + 1)).map (·.toNat) := by
      have := congrArg (List.map (·.toNat)) hsp
      rw [List.map_append, List.map_cons] at this
      exact this
    rw [n1, n2] at h5
    refine Crc.feed_turned 4294967295 _ _ z.toNat x.toNat (by decide) ?_ ?_ z.toNat_lt x.toNat_lt ?_ h5
    · intro b hb; obtain ⟨u, _, rfl⟩ := List.mem_map.1 hb; exact u.toNat_lt
    · intro b hb; obtain ⟨u, _, rfl⟩ := List.mem_map.1 hb; exact u.toNat_lt
    · intro q; exact hxz (UInt8.toNat_inj.1 q).symm
  · have hfr2 : ((setB (sealed s) k z).extract 0 ((sealed s).size - 4)) = s := by
      apply ext_listT
      rw [hfr, List.set_append_right _ _ (by omega), ← hsl, List.take_left]
    rw [hfr2] at h
    apply hz
    have h2 := congrArg (fun b : ByteArray => b.data.toList[k]?) h
    simp only [setB_list] at h2
    rw [h2, List.getElem?_set_self (by simpa using hk)]
end Go.Proofs.Ytfeljngmidhajaa

namespace Go.Proofs.Ytfeljngmidhajaa
open Go.RowKit Go.Mine

theorem built_size (l : List Ch) : (built l).size = 10 + 8 * l.length + dataSize l := by
  unfold built
  rw [sealed_size, ba_size]
  have h1 : (sortCh l).length = l.length := sortCh_length l
  have h2 : dataSize (sortCh l) = dataSize l := dataSize_perm (sortCh_perm l)
  simp only [bodyCh, magicC, List.length_append, List.length_cons, List.length_nil, num_length, tableCh_length, dataCh_length]
  omega
theorem built_front (l : List Ch) : (built l).data.toList.take 5 = magicC := by
  unfold built sealed bodyCh
  simp [magicC]

theorem parse_turned (l : List Ch) (hb : buildErr l = 0) (k : Nat) (z : UInt8) (hk : k < (built l).size) (hz : (built l).data.toList[k]? ≠ some z) :
    parseR (setB (built l) k z) = .error (if k < 5 then 3 else 4) := by
  have h3 := ((buildErr_iff l).1 hb).2.2
  have hs := built_size l
  have hss := setB_size (built l) k z
  unfold parseR
  rw [if_neg (by omega), if_neg (by omega)]
  have hf := built_front l
  have hx : ((setB (built l) k z).extract 0 5).data.toList = (magicC).set k z := by
    rw [toList_extract, List.drop_zero, Nat.sub_zero, setB_list, List.take_set, hf]
  by_cases h5 : k < 5
  · rw [if_pos h5, if_pos]
    intro q
    rw [q] at hx
    have h6 : magicC[k]? = some z := by
      have h7 : (magicC.set k z)[k]? = some z := by rw [List.getElem?_set_self (by simpa [magicC] using h5)]
      rw [← hx] at h7
      exact h7
    apply hz
    rw [← h6, ← hf, List.getElem?_take, if_pos h5]
  · rw [if_neg h5, if_neg, if_pos]
    · have hne := turned_not_sealed ⟨(bodyCh (sortCh l)).toArray⟩ k z hk hz
      intro q
      exact hne ((sealed_iff (setB (built l) k z) (by omega)).2 q)
    · simp only [ne_eq, Decidable.not_not]
      apply ext_listT
      rw [hx, List.set_eq_of_length_le (by simp [magicC]; omega)]
      rfl

theorem back_set {w : World} {g cap : Nat} {s : ByteArray} {cur : Array Value} {f : Nat × Nat} (hcur : w.heap[g]? = some (.cells cur 5 f)) (hcell : ∀ (j x : Nat), (nums s)[j]? = some x → w.cell? ⟨g, j, none⟩ = some (.int .u8 (x : Nat))) (k : Nat) (z : UInt8) (_hk : k < s.size) :
    (convert 51 9 (.slice (some ⟨g, 0, none⟩) s.size cap)).run Try.prog (w.setCell ⟨g, k, none⟩ (.int .u8 (z.toNat : Nat))) = .ok (.string (setB s k z)) (w.setCell ⟨g, k, none⟩ (.int .u8 (z.toNat : Nat))) := by
  have hl : (s.data.toList.set k z).length = s.size := by simp
  have := run_convert_bytes_back (P := Try.prog) (w.setCell ⟨g, k, none⟩ (.int .u8 (z.toNat : Nat))) 51 9 5 ⟨g, 0, none⟩ cap (s.data.toList.set k z) Try.underlying51 Try.underlying5 Try.underlying9 (fun j hj => by
    rw [Addr.add_lit, Nat.zero_add]
    have hj2 : j < s.size := by rw [hl] at hj; exact hj
    have hb := Go.Mine.heap_setCell_same (o := k) hcur (.int .u8 (z.toNat : Nat))
    refine cell_of hb j _ ?_
    have hn : (nums s)[j]? = some (s.data.toList[j]'(by simpa using hj2)).toNat := by
      unfold nums; rw [List.getElem?_map, List.getElem?_eq_getElem (by simpa using hj2)]; rfl
    have hc := hcell j _ hn
    simp only [World.cell?, hcur] at hc
    have hjc : j < cur.size := by
      have := (Array.getElem?_eq_some_iff.1 hc).1; exact this
    rw [Array.getElem?_setIfInBounds]
    by_cases hkj : k = j
    · subst hkj
      rw [if_pos rfl, if_pos hjc]
      simp
    · have hc2 : cur[j]? = some (.int .u8 ((s.data.toList[j]'(by simpa using hj2)).toNat : Nat)) := hc
      rw [if_neg hkj, hc2]
      simp [hkj])
  rw [hl] at this
  exact this

set_option maxRecDepth 100000 in
set_option maxHeartbeats 4000000 in
theorem turned_law (a : Option Addr) (cap : Nat) (l : List Ch) (at_ bit : Nat) (w : World) (h : ChIs w a cap l) (hat : at_ < 65536) (hbit : bit < 256) :
    Calls Try.prog 7 #[.slice a l.length cap, .int .u16 at_, .int .u8 bit] w fun e w' => e = .returned (.bool true) ∧ Turned (fun _ => False) w w' := by
  have hh := holds_any w
  have HC : Hid (ChIs w a cap l) := h
  have hB := fun W (ht : Turned (fun _ => False) w W) => build_any a cap l W (h.turned ht)
  by_cases hbe : buildErr l = 0
  · have hbv : buildV l = .tuple #[.string (built l), .int .i64 0] := by unfold buildV; rw [hbe]; rfl
    rw [hbv] at hB
    have hsz := built_size l
    have hlim := ((buildErr_iff l).1 hbe).2.2
    have hpt := parse_turned l hbe
    generalize built l = s at *
    generalize l.length = L at *
    have FB : Hid (∀ W, Turned (fun _ => False) w W → Calls Try.prog 17 #[.slice a L cap] W fun e w' => e = .returned (.tuple #[.string s, .int .i64 0]) ∧ Turned (fun _ => False) W w') := hB
    obtain ⟨k, hk⟩ : ∃ k, k = at_ % s.size := ⟨_, rfl⟩
    have hkl : k < s.size := by rw [hk]; exact Nat.mod_lt _ (by omega)
    have hmod : (at_ : Int) % (s.size : Int) = (k : Int) := by rw [hk]; simp
    obtain ⟨x, hx⟩ : ∃ x, s.data.toList[k]? = some x := ⟨_, List.getElem?_eq_getElem (by simpa using hkl)⟩
    have HSZ : Hid (10 ≤ s.size ∧ s.size ≤ 4194304) := (by omega : 10 ≤ s.size ∧ s.size ≤ 4194304)
    have HX : Hid (s.data.toList[k]? = some x) := hx
    have HPT : Hid (∀ (k : Nat) (z : UInt8), k < s.size → s.data.toList[k]? ≠ some z → parseR (setB s k z) = .error (if k < 5 then 3 else 4)) := hpt
    have HBT : Hid (bit < 256) := hbit
    clear hB hbv hk hx hpt hsz hlim hbe h hbit
    obtain ⟨y, hy⟩ : ∃ y : Nat, y = 2 ^ (bit % 8) := ⟨_, rfl⟩
    have hy1 : 0 < y := by rw [hy]; exact Nat.pow_pos (by decide)
    have hy2 : y < 256 := by rw [hy]; exact Nat.lt_of_le_of_lt (Nat.pow_le_pow_right (n := 2) (by decide) (show bit % 8 ≤ 7 by omega)) (by decide)
    obtain ⟨z, hz⟩ : ∃ z : UInt8, z = UInt8.ofNat (x.toNat ^^^ y) := ⟨_, rfl⟩
    have hx256 := x.toNat_lt
    have hzn : z.toNat = x.toNat ^^^ y := by
      rw [hz, UInt8.toNat_ofNat']
      exact Nat.mod_eq_of_lt (Nat.xor_lt_two_pow (n := 8) (by omega) (by omega))
    have hzx : x ≠ z := by
      intro q
      rw [← q] at hzn
      have : x.toNat ^^^ (x.toNat ^^^ y) = y := by rw [← Nat.xor_assoc, Nat.xor_self, Nat.zero_xor]
      rw [← hzn, Nat.xor_self] at this
      omega
    have hxor : bits .xor .u8 (x.toNat : Int) ((2 : Int) ^ (bit % 8) % 256) = (z.toNat : Int) := by
      have e1 : (2 : Int) ^ (bit % 8) % 256 = ((y : Nat) : Int) := by
        have : (2 : Int) ^ (bit % 8) = ((y : Nat) : Int) := by rw [hy]; simp
        rw [this]; omega
      rw [e1, u8_xor_nat _ _ (by omega) hy2, hzn]
    have hps : ∀ W, Calls Try.prog 29 #[.string (setB s k z)] W fun e w' => Turned (fun _ => False) W w' ∧ e = .returned (.tuple #[.slice none 0 0, .int .i64 ((if k < 5 then 3 else 4 : Nat) : Nat)]) := fun W => by
      have := parse_any (setB s k z) W (by rw [setB_size]; have := HSZ.out; omega)
      rw [HPT.out k z hkl (by rw [HX.out]; simpa using hzx)] at this
      exact this
    have hpe : ∀ W, Calls Try.prog 29 #[.string (s.extract 0 (at_ % 10))] W fun e w' => Turned (fun _ => False) W w' ∧ e = .returned (.tuple #[.slice none 0 0, .int .i64 2]) := fun W => by
      have hz2 : (s.extract 0 (at_ % 10)).size = at_ % 10 := by rw [ByteArray.size_extract]; have := HSZ.out; omega
      have := parse_any (s.extract 0 (at_ % 10)) W (by omega)
      have hR : parseR (s.extract 0 (at_ % 10)) = .error 2 := by unfold parseR; rw [if_neg (by omega), if_pos (by omega)]
      rw [hR] at this
      exact this
    have hsl : ∀ W, (Instr.slice 9 (.string s) none (some (.int .i64 ((at_ : Int) % 10))) none).run Try.prog W = .ok (.string (s.extract 0 (at_ % 10))) W := fun W => by
      have := run_slice_string_h (P := Try.prog) W 9 s Try.underlying9 .i64 ((at_ % 10 : Nat) : Int) (by omega) (by have := HSZ.out; omega)
      rw [Int.toNat_natCast] at this
      exact this
    generalize s.extract 0 (at_ % 10) = s10 at *
    have HKL : Hid (k < s.size) := hkl
    have HPS : Hid (∀ W, Calls Try.prog 29 #[.string (setB s k z)] W fun e w' => Turned (fun _ => False) W w' ∧ e = .returned (.tuple #[.slice none 0 0, .int .i64 ((if k < 5 then 3 else 4 : Nat) : Nat)])) := hps
    have HPE : Hid (∀ W, Calls Try.prog 29 #[.string s10] W fun e w' => Turned (fun _ => False) W w' ∧ e = .returned (.tuple #[.slice none 0 0, .int .i64 2])) := hpe
    clear hy hy1 hy2 hz hzn hzx hx256 hps hpe
    by_cases hk5 : k < 5
    · have hps := HPS.out
      rw [if_pos hk5] at hps
      have PS : Hid (∀ W, Calls Try.prog 29 #[.string (setB s k z)] W fun e w' => Turned (fun _ => False) W w' ∧ e = .returned (.tuple #[.slice none 0 0, .int .i64 3])) := hps
      have hd5 : decide ((k : Int) < 5) = true := by simp; omega
      have hd6 : decide (k < 5) = true := by simp; omega
      clear hps HPS hk5
      go_enter Try.func7, Try.ntmps7
      go_wp2_with (first
        | (go_at_call 15; (with_reducible refine hh.mono ?_); rintro e w1 ⟨rfl, ht1⟩; have T1 : Hid (Turned (fun _ => False) w w1) := ht1; have h17 := FB.out w1 ht1; clear ht1)
        | (go_at_call 17; (with_reducible refine h17.mono ?_); rintro e w2 ⟨rfl, ht2⟩; obtain ⟨cap3, w3, hconv, ht3, hlt3, hcap3, hcell, hfrz, cur, hcur, hcsz⟩ := bytes_of w2 s; have c0 : w3.cell? ⟨w2.heap.size, k, none⟩ = some (.int .u8 (x.toNat : Nat)) := (hcell k x.toNat (by simp [nums, HX.out])); have f0 := hfrz k hkl; have hback := back_set (cap := cap3) hcur hcell k z HKL.out; have T3 : Hid (Turned (fun _ => False) w (w3.setCell ⟨w2.heap.size, k, none⟩ (.int .u8 (z.toNat : Nat)))) := ((T1.out.trans ht2 (fun _ _ q => q)).trans ht3 (fun _ _ q => q)).comp (Turned.setCell (S := (· = w2.heap.size)) (p := ⟨w2.heap.size, k, none⟩) rfl _) (fun i hi q => q.elim (fun q => q) fun q => by have := T1.out.size; have := ht2.size; omega); have h29 := PS.out (w3.setCell ⟨w2.heap.size, k, none⟩ (.int .u8 (z.toNat : Nat))); clear ht2 ht3 hcell hfrz h17 hcur)
        | (go_at_call 29; (with_reducible refine h29.mono ?_); rintro e w4 ⟨ht4, rfl⟩; have T4 : Hid (Turned (fun _ => False) w w4) := T3.out.trans ht4 (fun _ _ q => q); have h29b := HPE.out w4; clear ht4 h29)
        | (go_at_call 29; (with_reducible refine h29b.mono ?_); rintro e w5 ⟨ht5, rfl⟩))
      go_ret
      exact ⟨rfl, T4.out.trans ht5 fun _ _ q => q⟩
    · have hps := HPS.out
      rw [if_neg hk5] at hps
      have PS : Hid (∀ W, Calls Try.prog 29 #[.string (setB s k z)] W fun e w' => Turned (fun _ => False) W w' ∧ e = .returned (.tuple #[.slice none 0 0, .int .i64 4])) := hps
      have hd5 : decide ((k : Int) < 5) = false := by simp; omega
      have hd6 : decide (k < 5) = false := by simp; omega
      clear hps HPS hk5
      go_enter Try.func7, Try.ntmps7
      go_wp2_with (first
        | (go_at_call 15; (with_reducible refine hh.mono ?_); rintro e w1 ⟨rfl, ht1⟩; have T1 : Hid (Turned (fun _ => False) w w1) := ht1; have h17 := FB.out w1 ht1; clear ht1)
        | (go_at_call 17; (with_reducible refine h17.mono ?_); rintro e w2 ⟨rfl, ht2⟩; obtain ⟨cap3, w3, hconv, ht3, hlt3, hcap3, hcell, hfrz, cur, hcur, hcsz⟩ := bytes_of w2 s; have c0 : w3.cell? ⟨w2.heap.size, k, none⟩ = some (.int .u8 (x.toNat : Nat)) := (hcell k x.toNat (by simp [nums, HX.out])); have f0 := hfrz k hkl; have hback := back_set (cap := cap3) hcur hcell k z HKL.out; have T3 : Hid (Turned (fun _ => False) w (w3.setCell ⟨w2.heap.size, k, none⟩ (.int .u8 (z.toNat : Nat)))) := ((T1.out.trans ht2 (fun _ _ q => q)).trans ht3 (fun _ _ q => q)).comp (Turned.setCell (S := (· = w2.heap.size)) (p := ⟨w2.heap.size, k, none⟩) rfl _) (fun i hi q => q.elim (fun q => q) fun q => by have := T1.out.size; have := ht2.size; omega); have h29 := PS.out (w3.setCell ⟨w2.heap.size, k, none⟩ (.int .u8 (z.toNat : Nat))); clear ht2 ht3 hcell hfrz h17 hcur)
        | (go_at_call 29; (with_reducible refine h29.mono ?_); rintro e w4 ⟨ht4, rfl⟩; have T4 : Hid (Turned (fun _ => False) w w4) := T3.out.trans ht4 (fun _ _ q => q); have h29b := HPE.out w4; clear ht4 h29)
        | (go_at_call 29; (with_reducible refine h29b.mono ?_); rintro e w5 ⟨ht5, rfl⟩))
      go_ret
      exact ⟨rfl, T4.out.trans ht5 fun _ _ q => q⟩
  · have hbv : buildV l = .tuple #[.string ⟨#[]⟩, .int .i64 (buildErr l : Nat)] := by unfold buildV; rw [if_neg hbe]
    rw [hbv] at hB
    generalize buildErr l = be at *
    generalize l.length = L at *
    have FB : Hid (∀ W, Turned (fun _ => False) w W → Calls Try.prog 17 #[.slice a L cap] W fun e w' => e = .returned (.tuple #[.string ⟨#[]⟩, .int .i64 (be : Nat)]) ∧ Turned (fun _ => False) W w') := hB
    have hd5 : ((be : Int) == 0) = false := by simp; omega
    clear hB hbv h hbe
    go_enter Try.func7, Try.ntmps7
    go_wp2_with (first
      | (go_at_call 15; (with_reducible refine hh.mono ?_); rintro e w1 ⟨rfl, ht1⟩; have T1 : Hid (Turned (fun _ => False) w w1) := ht1; have h17 := FB.out w1 ht1; clear ht1)
      | (go_at_call 17; (with_reducible refine h17.mono ?_); rintro e w2 ⟨rfl, ht2⟩))
    go_ret
    exact ⟨rfl, T1.out.trans ht2 fun _ _ q => q⟩
end Go.Proofs.Ytfeljngmidhajaa

namespace Go.Proofs.Ytfeljngmidhajaa
open Go.RowKit Go.Mine

theorem built_sorted (l : List Ch) (h : buildErr l = 0) : Rising (sortCh l) ∧ (∀ c ∈ sortCh l, c.1 ≠ 0) ∧ built (sortCh l) = built l := by
  obtain ⟨b1, b2, b3⟩ := (buildErr_iff l).1 h
  obtain ⟨c1, c2⟩ := checkCh_ok l [] b2 (by simp)
  have hr := sortCh_rising l (by simpa using c1)
  refine ⟨hr, fun c hc => c2 c ((sortCh_perm l).mem_iff.1 hc), ?_⟩
  unfold built
  rw [sortCh_rise _ hr]

theorem parse_built (l : List Ch) (h : buildErr l = 0) (hs : Small l) : parseR (built l) = .ok (sortCh l) := by
  obtain ⟨b1, b2, b3⟩ := (buildErr_iff l).1 h
  obtain ⟨hr, h0, hb⟩ := built_sorted l h
  have hsz := built_size l
  have hin := inner_of_built (built l) (sortCh l) hr hb
  have hp := progT_of _ (sortCh l) hr h0 (by rw [sortCh_length]; exact b1) (fun c hc => by
    have hm := (sortCh_perm l).mem_iff.1 hc
    exact ⟨(hs c hm).1, by have := size_le_data l c hm; omega⟩) hin
  unfold parseR
  rw [if_neg (by omega), if_neg (by omega), if_neg, if_neg]
  · rw [hp]; rfl
  · simp only [ne_eq, Decidable.not_not]
    apply (sealed_iff (built l) (by omega)).1
    have : (built l).extract 0 ((built l).size - 4) = ⟨(bodyCh (sortCh l)).toArray⟩ := by
      apply ext_list
      have hss := sealed_size ⟨(bodyCh (sortCh l)).toArray⟩
      have he : (built l).size = (bodyCh (sortCh l)).length + 4 := by
        show (sealed ⟨(bodyCh (sortCh l)).toArray⟩).size = _
        rw [hss, ba_size]
      rw [toList_extract, List.drop_zero, Nat.sub_zero, he]
      unfold built sealed
      simp
    rw [this]
    rfl
  · simp only [ne_eq, Decidable.not_not]
    apply ext_list
    rw [toList_extract, List.drop_zero, Nat.sub_zero, built_front]
    rfl
end Go.Proofs.Ytfeljngmidhajaa
