/- Links of a chain in memory; the small functions on them. -/
import Derived.Test.YtfeljngmidhajaaDoorPackX
namespace Go.Proofs.YtfeljngmidhajaaDoor
open Go.RowKit Go.Mine

/-- a link: its number, its count, its sum -/
abbrev Ln := Int × Int × Nat
abbrev lnv (x : Ln) : Value := .agg #[.int .i64 x.1, .int .i64 x.2.1, .int .u32 (x.2.2 : Nat)]
def I64 (n : Int) : Prop := -9223372036854775808 ≤ n ∧ n ≤ 9223372036854775807

/-- the slice of n elements at a reads as the links l -/
def LnIs (w : World) (a : Option Addr) (cap : Nat) (l : List Ln) : Prop :=
  l.length ≤ cap ∧ cap ≤ maxLen ∧ (∀ x ∈ l, I64 x.1 ∧ I64 x.2.1 ∧ x.2.2 < 4294967296) ∧ (0 < l.length → ∃ b off, a = some ⟨b, off, none⟩ ∧ b < w.heap.size ∧
    ∀ i x, l[i]? = some x → w.cell? ⟨b, off + i * 3, none⟩ = some (.int .i64 x.1) ∧ w.cell? ⟨b, off + i * 3 + 1, none⟩ = some (.int .i64 x.2.1) ∧ w.cell? ⟨b, off + i * 3 + 2, none⟩ = some (.int .u32 (x.2.2 : Nat)))

theorem LnIs.turned {w w' : World} {a : Option Addr} {cap : Nat} {l : List Ln} (h : LnIs w a cap l) (ht : Turned (fun _ => False) w w') : LnIs w' a cap l := by
  refine ⟨h.1, h.2.1, h.2.2.1, fun h0 => ?_⟩
  obtain ⟨b, off, h1, h2, h3⟩ := h.2.2.2 h0
  refine ⟨b, off, h1, Nat.lt_of_lt_of_le h2 ht.size, fun i x hi => ?_⟩
  have hb := fun o => World.cell?_of_block (w := w) (w' := w') (a := ⟨b, o, none⟩) (ht.block b h2 fun q => q)
  rw [hb, hb, hb]
  exact h3 i x hi

theorem lnIs_any {w : World} {a : Option Addr} {cap : Nat} {l : List Ln} (h : LnIs w a cap l) (j : Nat) (x : Ln) (hx : l[j]? = some x) :
    ∃ b off, a = some ⟨b, off, none⟩ ∧ b < w.heap.size ∧ w.cell? ⟨b, off + j * 3, none⟩ = some (.int .i64 x.1) ∧ w.cell? ⟨b, off + j * 3 + 1, none⟩ = some (.int .i64 x.2.1) ∧ w.cell? ⟨b, off + j * 3 + 2, none⟩ = some (.int .u32 (x.2.2 : Nat)) := by
  have hj := (List.getElem?_eq_some_iff.1 hx).1
  obtain ⟨b, off, h1, h2, h3⟩ := h.2.2.2 (by omega)
  exact ⟨b, off, h1, h2, h3 j x hx⟩

def numb (n : Int) : Bool := decide (0 ≤ n) && decide (n ≤ 1073741824)

set_option maxRecDepth 100000 in
theorem numbered_any (n : Int) (w : World) : Calls Tryd.prog 32 #[.int .i64 n] w fun e w' => e = .returned (.bool (numb n)) ∧ w = w' := by
  unfold numb
  by_cases h : 0 ≤ n
  · have hd : decide (0 ≤ n) = true := by simp [h]
    rw [hd, Bool.true_and]
    go_enter Tryd.func32, Tryd.ntmps32
    go_wp2
    go_ret
    exact ⟨rfl, rfl⟩
  · have hd : decide (0 ≤ n) = false := by simp [h]
    rw [hd, Bool.false_and]
    go_enter Tryd.func32, Tryd.ntmps32
    go_wp2
    go_ret
    exact ⟨rfl, rfl⟩

set_option maxRecDepth 100000 in
/-- Check's test: has the link the number that stands in the cell at p? -/
theorem lsame_any (x d : Ln) (p : Nat) (w : World) (hx : w.cell? ⟨p, 0, none⟩ = some (.int .i64 d.1)) :
    Calls Tryd.prog 34 #[lnv x, pt p] w fun e w' => e = .returned (.bool (x.1 == d.1)) ∧ Turned (fun _ => False) w w' := by
  have hlt := lt_of_cell hx
  go_enter Tryd.func34, Tryd.ntmps34
  go_wp2
  go_ret
  exact ⟨by rfl, Turned.alloc _ _ _⟩

def hasLn (l : List Ln) (n : Int) : Bool := l.any (fun x => x.1 == n)

def LIdxRel (w : World) (l : List Ln) (n : Int) (g : Nat) (i : Value) (wr : World) : Prop :=
  ∃ j : Nat, j + g = l.length ∧ i = .int .i64 j ∧ (∀ t d, t < j → l[t]? = some d → d.1 ≠ n) ∧ Turned (fun _ => False) w wr

def LIdxPost (w : World) (l : List Ln) (n : Int) (e : Ending) (w' : World) : Prop :=
  Turned (fun _ => False) w w' ∧ ((hasLn l n = false ∧ e = .returned (.int .i64 (-1))) ∨ (hasLn l n = true ∧ ∃ j : Nat, e = .returned (.int .i64 j)))

set_option maxRecDepth 100000 in
set_option maxHeartbeats 1000000 in
theorem lindex_any (a : Option Addr) (cap p : Nat) (l : List Ln) (d : Ln) (w : World) (h : LnIs w a cap l) (hx : w.cell? ⟨p, 0, none⟩ = some (.int .i64 d.1)) :
    Calls Tryd.prog 52 #[.slice a l.length cap, .func (.func 34) #[] #[pt p]] w (LIdxPost w l d.1) := by
  have H : Hid (LnIs w a cap l) := h
  have HX : Hid (w.cell? ⟨p, 0, none⟩ = some (.int .i64 d.1)) := hx
  obtain ⟨L, hL⟩ : ∃ L, L = l.length := ⟨_, rfl⟩
  have HL : Hid (L = l.length) := hL
  rw [← hL]
  have hcap : Hid (L ≤ 9223372036854775807) := (by rw [hL]; have := h.1; have := h.2.1; simp only [maxLen] at this; omega : L ≤ 9223372036854775807)
  clear h hL hx
  go_enter Tryd.func52, Tryd.ntmps52
  go_wp2
  have HS : Hid (LIdxRel w l d.1 L (.int .i64 0) w) := ⟨0, by rw [HL.out, Nat.zero_add], rfl, fun t d ht => by omega, Turned.refl _ _⟩
  go_loopg [8] L (fun g i wr => LIdxRel w l d.1 g i wr)
  case atStart => exact HS.out
  case round =>
    obtain ⟨j, hjg, rfl, hno, ht⟩ := hrel
    have N : Hid (∀ t e, t < j → l[t]? = some e → e.1 ≠ d.1) := hno
    have T : Hid (Turned (fun _ => False) w wr) := ht
    have G : Hid (j + gk = l.length) := hjg
    clear hno ht hjg HS
    by_cases hlt : j < L
    · obtain ⟨c, hc⟩ : ∃ c, l[j]? = some c := ⟨_, List.getElem?_eq_getElem (by rw [← HL.out]; exact hlt)⟩
      obtain ⟨b, off, rfl, hbw, c0, c1, c2⟩ := lnIs_any (H.out.turned T.out) j c hc
      have hw : wrap64 ((j : Int) + 1) = ((j + 1 : Nat) : Int) := by have := hcap.out; simp [wrap64]; omega
      have HW : Hid (wrap64 ((j : Int) + 1) = ((j + 1 : Nat) : Int)) := hw
      have C : Hid (l[j]? = some c) := hc
      have hs : Calls Tryd.prog 34 #[lnv c, pt p] wr fun e w' => e = .returned (.bool (c.1 == d.1)) ∧ Turned (fun _ => False) wr w' := lsame_any c d p wr (by rw [World.cell?_of_block (w' := wr) (T.out.block p (lt_of_cell HX.out) fun q => q)]; exact HX.out)
      clear hc hw
      by_cases hid : c.1 = d.1
      · rw [show (c.1 == d.1) = true by simp [hid]] at hs
        have HI : Hid (c.1 = d.1) := hid
        clear hid
        go_wp2_with (go_at_call 34; (with_reducible refine hs.mono ?_); rintro e w2 ⟨rfl, ht2⟩)
        go_ret
        refine ⟨T.out.trans ht2 fun _ _ q => q, .inr ⟨?_, j, rfl⟩⟩
        unfold hasLn
        rw [List.any_eq_true]
        exact ⟨c, List.mem_of_getElem? C.out, by simpa using HI.out⟩
      · rw [show (c.1 == d.1) = false by simp [hid]] at hs
        have HI : Hid (c.1 ≠ d.1) := hid
        clear hid
        go_wp2_with (go_at_call 34; (with_reducible refine hs.mono ?_); rintro e w2 ⟨rfl, ht2⟩)
        go_roundg (gk - 1)
        case measure => have := G.out; have := HL.out; omega
        case rel =>
          refine ⟨j + 1, by have := G.out; have := HL.out; omega, by rw [HW.out], fun t e ht hd => ?_, T.out.trans ht2 fun _ _ q => q⟩
          rcases Nat.lt_or_eq_of_le (Nat.le_of_lt_succ ht) with q | q
          · exact N.out t e q hd
          · rw [q, C.out] at hd; obtain rfl := Option.some.inj hd; exact HI.out
    · go_wp2
      go_ret
      refine ⟨T.out, .inl ⟨?_, rfl⟩⟩
      unfold hasLn
      rw [List.any_eq_false]
      intro c hc
      obtain ⟨t, ht⟩ := List.getElem?_of_mem hc
      have := (List.getElem?_eq_some_iff.1 ht).1
      simpa using N.out t c (by have := HL.out; omega) ht

set_option maxRecDepth 100000 in
set_option maxHeartbeats 1000000 in
theorem lcontains_any (a : Option Addr) (cap p : Nat) (l : List Ln) (d : Ln) (w : World) (h : LnIs w a cap l) (hx : w.cell? ⟨p, 0, none⟩ = some (.int .i64 d.1)) :
    Calls Tryd.prog 33 #[.slice a l.length cap, .func (.func 34) #[] #[pt p]] w fun e w' => e = .returned (.bool (hasLn l d.1)) ∧ Turned (fun _ => False) w w' := by
  have hi := lindex_any a cap p l d w h hx
  clear h hx
  generalize hb : hasLn l d.1 = b
  have B : Hid (hasLn l d.1 = b) := hb
  clear hb
  go_enter Tryd.func33, Tryd.ntmps33
  go_wp2_with fail
  refine hi.mono ?_
  rintro e w1 ⟨ht, ⟨h1, rfl⟩ | ⟨h1, j, rfl⟩⟩
  · rw [B.out] at h1
    subst h1
    go_wp2
    go_ret
    exact ⟨rfl, ht⟩
  · rw [B.out] at h1
    subst h1
    have hj : decide ((0 : Int) ≤ (j : Int)) = true := by simp
    go_wp2
    go_ret
    exact ⟨rfl, ht⟩

/-- how many rows -/
def totLn : List Ln → Int
  | [] => 0
  | x :: l => x.2.1 + totLn l
theorem totLn_append (a b : List Ln) : totLn (a ++ b) = totLn a + totLn b := by
  induction a with
  | nil => simp [totLn]
  | cons x a ih => simp only [List.cons_append, totLn, ih]; omega

def TotRel (w : World) (l : List Ln) (g : Nat) (n i : Value) (wr : World) : Prop :=
  ∃ j : Nat, j + g = l.length ∧ i = .int .i64 j ∧ n = .int .i64 (totLn (l.take j)) ∧ Turned (fun _ => False) w wr

set_option maxRecDepth 100000 in
set_option maxHeartbeats 1000000 in
theorem total_any (a : Option Addr) (cap : Nat) (l : List Ln) (w : World) (h : LnIs w a cap l) (hb : ∀ j, I64 (totLn (l.take j))) (hl : l.length ≤ 100000) :
    Calls Tryd.prog 35 #[.slice a l.length cap] w fun e w' => e = .returned (.int .i64 (totLn l)) ∧ Turned (fun _ => False) w w' := by
  have H : Hid (LnIs w a cap l) := h
  have HB : Hid (∀ j, I64 (totLn (l.take j))) := hb
  obtain ⟨L, hL⟩ : ∃ L, L = l.length := ⟨_, rfl⟩
  have HL : Hid (L = l.length ∧ L ≤ 100000) := ⟨hL, by omega⟩
  rw [← hL]
  clear h hb hL hl
  go_enter Tryd.func35, Tryd.ntmps35
  go_wp2
  go_loopg [3, 8] L (fun g n i wr => TotRel w l g n i wr)
  case atStart => exact ⟨0, by have := HL.out.1; omega, rfl, rfl, Turned.refl _ _⟩
  case round =>
    obtain ⟨j, hjg, rfl, rfl, ht⟩ := hrel
    have T : Hid (Turned (fun _ => False) w wr) := ht
    have G : Hid (j + gk = l.length) := hjg
    clear ht hjg
    by_cases hlt : j < L
    · obtain ⟨c, hc⟩ : ∃ c, l[j]? = some c := ⟨_, List.getElem?_eq_getElem (by rw [← HL.out.1]; exact hlt)⟩
      obtain ⟨b, off, rfl, hbw, c0, c1, c2⟩ := lnIs_any (H.out.turned T.out) j c hc
      have ht1 : totLn (l.take (j + 1)) = totLn (l.take j) + c.2.1 := by rw [List.take_add_one, hc, totLn_append]; simp [totLn]
      have hbb := HB.out (j + 1)
      have HT : Hid (wrap64 (totLn (l.take j) + c.2.1) = totLn (l.take (j + 1))) := by
        have : wrap64 (totLn (l.take j) + c.2.1) = totLn (l.take (j + 1)) := by rw [ht1] at hbb ⊢; unfold I64 at hbb; simp only [wrap64]; omega
        exact this
      clear hc ht1 hbb
      generalize totLn (l.take j) = n at *
      go_wp2
      go_roundg (gk - 1)
      case measure => have := G.out; have := HL.out; omega
      case rel => exact ⟨j + 1, by have := G.out; have := HL.out; omega, by have := HL.out; simp [wrap64]; omega, by rw [HT.out], T.out.new _⟩
    · have hj : j = L := by have := G.out; have := HL.out; omega
      subst hj
      have HE : Hid (l.take j = l) := List.take_of_length_le (by have := HL.out.1; omega)
      go_wp2
      go_ret
      exact ⟨by rw [HE.out]; rfl, T.out⟩

set_option maxRecDepth 100000 in
theorem prefix_any (t m : ByteArray) (w : World) (hm : m.size ≤ t.size) (hs : t.size ≤ 4611686018427387904) :
    Calls Tryd.prog 27 #[.string t, .string m] w fun e w' => e = .returned (.bool (decide (t.extract 0 m.size = m))) ∧ w = w' := by
  have hin : Calls Tryd.prog 47 #[.string t, .string m] w fun e w' => e = .returned (.bool (decide (t.extract 0 m.size = m))) ∧ w = w' := by
    have hd : decide ((m.size : Int) ≤ (t.size : Int)) = true := by simp; omega
    have hd2 : decide (m.size ≤ t.size) = true := by simp; omega
    have hsl : ∀ W, (Instr.slice 9 (.string t) none (some (.int .i64 (m.size : Nat))) none).run Tryd.prog W = .ok (.string (t.extract 0 m.size)) W := fun W => by
      have := run_slice_string_h (P := Tryd.prog) W 9 t Tryd.underlying9 .i64 (m.size : Nat) (by omega) (by omega)
      rw [Int.toNat_natCast] at this
      exact this
    generalize t.extract 0 m.size = f at *
    by_cases hf : f = m
    · subst hf
      clear hm hs
      go_enter Tryd.func47, Tryd.ntmps47
      go_wp2
      go_ret
      exact ⟨by simp, rfl⟩
    · rw [show decide (f = m) = false by simp [hf]]
      have hne : (f.toList == m.toList) = false := by
        rw [ByteArray.toList_eq, ByteArray.toList_eq]
        simp only [beq_eq_false_iff_ne, ne_eq]
        intro q
        exact hf (ByteArray.ext (Array.toList_inj.1 q))
      clear hm hs hf
      go_enter Tryd.func47, Tryd.ntmps47
      go_wp2
      go_ret
      exact ⟨rfl, rfl⟩
  generalize decide (t.extract 0 m.size = m) = b at *
  go_enter Tryd.func27, Tryd.ntmps27
  go_wp2_with (go_at_call 47; (with_reducible refine hin.mono ?_); rintro e w1 ⟨rfl, rfl⟩)
  go_ret
  exact ⟨rfl, rfl⟩
end Go.Proofs.YtfeljngmidhajaaDoor
