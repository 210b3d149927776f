/- Graph files: what a row is told as; the walk of row. -/
import Derived.Test.YtfeljngmidhajaaGw9
namespace Go.Proofs.Ytfeljngmidhajaa
open Go.RowKit Go.Mine

def firstN (r : Rw) : Nat := match r.par with
  | [] => 4294967295
  | p :: _ => p.toNat
def secondN (r : Rw) (e : Nat) : Nat := if 2 < r.par.length then 2147483648 + e / 4 else if r.par.length = 2 then (r.par[1]?.getD 0).toNat else 4294967295
def midB (l : List Int) : List UInt8 := l.flatMap fun p => num p.toNat 4
def edgeB (r : Rw) : List UInt8 := if 2 < r.par.length then midB ((r.par.drop 1).take (r.par.length - 2)) ++ num ((r.par[r.par.length - 1]?.getD 0).toNat + 2147483648) 4 else []
def rowB (r : Rw) (e : Nat) : List UInt8 := num r.tree.toNat 4 ++ num (firstN r) 4 ++ num (secondN r e) 4 ++ num r.gen.toNat 2 ++ num r.state.toNat 1
theorem rowB_length (r : Rw) (e : Nat) : (rowB r e).length = 15 := by simp [rowB, num_length]
theorem midB_length (l : List Int) : (midB l).length = 4 * l.length := by
  induction l with
  | nil => rfl
  | cons x l ih => simp only [midB, List.flatMap_cons, List.length_append, num_length, List.length_cons] at ih ⊢; omega
theorem midB_snoc (l : List Int) (j : Nat) (x : Int) (h : l[j]? = some x) : midB (l.take (j + 1)) = midB (l.take j) ++ num x.toNat 4 := by
  rw [List.take_add_one, h]
  simp [midB]
theorem edgeB_length (r : Rw) : (edgeB r).length ≤ 4 * r.par.length := by
  unfold edgeB
  split
  · simp only [List.length_append, midB_length, num_length, List.length_take, List.length_drop]; omega
  · simp
theorem goodF_state {s : Int} {b : ByteArray} (h : goodF s b = true) : 0 ≤ s ∧ s ≤ 2 ∧ b.size ≤ 4096 := by
  unfold goodF at h
  split at h
  · simp only [decide_eq_true_eq] at h; omega
  · split at h
    · simp only [decide_eq_true_eq] at h; omega
    · simp at h

theorem ints_cut (S : Nat → Prop) (a : Option Addr) (cap : Nat) (l : List Int) (hl : 2 < l.length) (w : World) (h : Ints w S a cap l) :
    ∃ a' cap', (∀ W, (Instr.slice 57 (.slice a l.length cap) (some (.int .i64 1)) (some (.int .i64 ((l.length - 1 : Nat) : Int))) none).run Try.prog W = .ok (.slice a' (l.length - 2) cap') W) ∧ ∀ W, Ints W S a cap l → Ints W S a' cap' ((l.drop 1).take (l.length - 2)) := by
  obtain ⟨i, hi, hz0, hz1, hz2⟩ := info_parts info3
  obtain ⟨h1, h2, h3, h4⟩ := h
  obtain ⟨g, off, rfl, -, -, -⟩ := h4 (by omega)
  have hcl : l.length - 1 ≤ cap := by omega
  have hone : 1 ≤ l.length - 1 := by omega
  have hne : ¬ cap = 1 := by omega
  refine ⟨some ⟨g, off + 1, none⟩, cap - 1, fun W => ?_, fun W hW => ?_⟩
  · have e2 : l.length - 1 - 1 = l.length - 2 := by omega
    have e3 : l.length ≤ cap + 1 := by omega
    have e4 : (1 : Int) ≤ ((l.length - 1 : Nat) : Int) := by omega
    simp [Instr.slice, Instr.sliceBounds, Instr.sliceBound, asIntOf, run_underlying Try.underlying57, sizeOf, typeInfo, hi, hz1, hcl, hone, hne, Result.andThen, Addr.add, e2, e3, e4]
  · obtain ⟨-, -, -, k4⟩ := hW
    obtain ⟨g', off', hgg, hS, hlt, hc⟩ := k4 (by omega)
    injection hgg with hgg
    injection hgg with q1 q2
    subst q1
    subst q2
    have hlen : ((l.drop 1).take (l.length - 2)).length = l.length - 2 := by simp; omega
    refine ⟨by omega, by omega, fun x hx => h3 x (List.mem_of_mem_drop (List.mem_of_mem_take hx)), fun _ => ⟨g, off + 1, rfl, hS, hlt, fun j x hx => ?_⟩⟩
    rw [List.getElem?_take] at hx
    split at hx
    · rw [List.getElem?_drop] at hx
      have := hc (1 + j) x hx
      rw [← Nat.add_assoc] at this
      exact this
    · simp at hx

def MidRel (p : Nat → Nat) (f : Nat → List UInt8) (n : Nat) (m : List Int) (K : Nat → Prop) (w : World) (g : Nat) (i : Value) (wr : World) : Prop :=
  ∃ j : Nat, j + g = m.length ∧ i = .int .i64 j ∧ Wrs wr K n p (upd f 2 (f 2 ++ midB (m.take j))) ∧ Turned (fun b => ¬ K b) w wr
theorem len_two {α : Type} {l : List α} (h : l.length = 2) : ∃ x y, l = [x, y] := by
  match l, h with
  | [x, y], _ => exact ⟨x, y, rfl⟩
theorem upd_upd {α : Type} (f : Nat → α) (i : Nat) (x y : α) : upd (upd f i x) i y = upd f i y := by funext j; unfold upd; split <;> rfl
theorem upd_self {α : Type} (f : Nat → α) (i : Nat) : upd f i (f i) = f := by funext j; unfold upd; split <;> simp_all
section
variable {w : World} {K : Nat → Prop} {n : Nat} {p : Nat → Nat} {f : Nat → List UInt8}
theorem u8_wu {bs : List UInt8} (i v : Nat) (h : Wrs w K n p (upd f i bs)) (hi : i < n) (hv : v < 256) (hL : bs.length + 1 ≤ 1099511627776) :
    Calls Try.prog 45 #[pt (p i), .int .u8 v] w fun e w' => e = .returned (.tuple #[]) ∧ Wrs w' K n p (upd f i (bs ++ num v 1)) ∧ Turned (fun b => ¬ K b) w w' := by
  have := u8_ws h i v hi hv (by rw [upd_same]; exact hL)
  rwa [upd_same, upd_upd] at this
theorem u16_wu {bs : List UInt8} (i v : Nat) (h : Wrs w K n p (upd f i bs)) (hi : i < n) (hv : v < 65536) (hL : bs.length + 2 ≤ 1099511627776) :
    Calls Try.prog 51 #[pt (p i), .int .u16 v] w fun e w' => e = .returned (.tuple #[]) ∧ Wrs w' K n p (upd f i (bs ++ num v 2)) ∧ Turned (fun b => ¬ K b) w w' := by
  have := u16_ws h i v hi hv (by rw [upd_same]; exact hL)
  rwa [upd_same, upd_upd] at this
theorem u32_wu {bs : List UInt8} (i v : Nat) (h : Wrs w K n p (upd f i bs)) (hi : i < n) (hv : v < 4294967296) (hL : bs.length + 4 ≤ 1099511627776) :
    Calls Try.prog 46 #[pt (p i), .int .u32 v] w fun e w' => e = .returned (.tuple #[]) ∧ Wrs w' K n p (upd f i (bs ++ num v 4)) ∧ Turned (fun b => ¬ K b) w w' := by
  have := u32_ws h i v hi hv (by rw [upd_same]; exact hL)
  rwa [upd_same, upd_upd] at this
end

set_option maxRecDepth 100000 in
set_option maxHeartbeats 4000000 in
theorem row_any {K : Nat → Prop} {n : Nat} {p : Nat → Nat} {f : Nat → List UInt8} (S : Nat → Prop) (a : Option Addr) (cap : Nat) (r : Rw) (N : Int) (w : World) (h : Ints w S a cap r.par) (hg : goodR r N) (hN : N ≤ 131072)
    (hW : Wrs w K n p f) (hn : 3 ≤ n) (hS : ∀ b, S b → K b) (hl1 : (f 1).length ≤ 1000000000) (hl2 : (f 2).length ≤ 1000000000) :
    Calls Try.prog 52 #[pt (p 1), pt (p 2), rowv a cap r] w fun e w' => e = .returned (.tuple #[]) ∧ Wrs w' K n p (upd (upd f 2 (f 2 ++ edgeB r)) 1 (f 1 ++ rowB r (f 2).length)) ∧ Turned (fun b => ¬ K b) w w' := by
  obtain ⟨g1, g2, g3, g4, g5, g6, g7⟩ := hg
  obtain ⟨s0, s2, sb⟩ := goodF_state g7
  obtain ⟨tn, htn⟩ : ∃ k : Nat, r.tree = (k : Int) := ⟨r.tree.toNat, by omega⟩
  obtain ⟨gn, hgn⟩ : ∃ k : Nat, r.gen = (k : Int) := ⟨r.gen.toNat, by omega⟩
  obtain ⟨sn, hsn⟩ : ∃ k : Nat, r.state = (k : Int) := ⟨r.state.toNat, by omega⟩
  have HRB : Hid (∀ e, rowB r e = num tn 4 ++ num (firstN r) 4 ++ num (secondN r e) 4 ++ num gn 2 ++ num sn 1) := by
    have q : ∀ e, rowB r e = num tn 4 ++ num (firstN r) 4 ++ num (secondN r e) 4 ++ num gn 2 ++ num sn 1 := fun e => by unfold rowB; rw [htn, hgn, hsn]; simp
    exact q
  have hpb := goodP_bound g6
  have HP : Hid (∀ x ∈ r.par, 0 ≤ x ∧ x < 131072) := by
    have q : ∀ x ∈ r.par, 0 ≤ x ∧ x < 131072 := fun x hx => by have := hpb x hx; omega
    exact q
  have hm1 : ((tn : Nat) : Int) % 4294967296 = (tn : Int) := by omega
  have hm2 : ((gn : Nat) : Int) % 65536 = (gn : Int) := by omega
  have hm3 : ((sn : Nat) : Int) % 256 = (sn : Int) := by omega
  have B : Hid (tn < 65536 ∧ gn ≤ 1023 ∧ sn ≤ 2) := (by omega : tn < 65536 ∧ gn ≤ 1023 ∧ sn ≤ 2)
  have LL : Hid ((f 1).length ≤ 1000000000 ∧ (f 2).length ≤ 1000000000) := ⟨hl1, hl2⟩
  have HN3 : Hid (3 ≤ n) := hn
  have HI : Hid (Ints w S a cap r.par) := h
  have HS : Hid (∀ b, S b → K b) := hS
  have HPL : Hid (r.par.length ≤ 16) := g1
  obtain ⟨L, hL⟩ : ∃ L, L = r.par.length := ⟨_, rfl⟩
  have HL : Hid (L = r.par.length) := hL
  unfold rowv
  rw [htn, hgn, hsn, ← hL]
  generalize hw1 : w.alloc (.cells #[.slice a L cap, .int .i64 (tn : Nat), .int .i64 (gn : Nat), .int .i64 (sn : Nat), .string r.bits] 61) = w1
  have hbx : w1.heap[w.heap.size]? = some (.cells #[.slice a L cap, .int .i64 (tn : Nat), .int .i64 (gn : Nat), .int .i64 (sn : Nat), .string r.bits] 61 (0, 0)) := by rw [← hw1]; exact heap_alloc_last w _
  have ht1 : Turned (fun _ => False) w w1 := by rw [← hw1]; exact Turned.alloc _ _ _
  have hz1 : w1.heap.size = w.heap.size + 1 := by rw [← hw1]; simp
  obtain ⟨K1, hK1⟩ : ∃ K1 : Nat → Prop, K1 = fun b => K b ∨ (w.heap.size ≤ b ∧ b < w1.heap.size) := ⟨_, rfl⟩
  have hW1 : Wrs w1 K1 n p f := by rw [hK1]; exact hW.turned (ht1.mono fun _ _ q => q.elim)
  have hKK : ∀ b, K b → K1 b := fun b q => by rw [hK1]; exact .inl q
  have hKb : K1 w.heap.size := by rw [hK1]; exact .inr ⟨Nat.le_refl _, by omega⟩
  have W1 : Hid (Wrs w1 K1 n p f) := hW1
  have KK : Hid (∀ b, K b → K1 b) := hKK
  have FIN : Hid (∀ w' f', Wrs w' K1 n p f' → Turned (fun b => ¬ K1 b) w1 w' → Wrs w' K n p f' ∧ Turned (fun b => ¬ K b) w w') := by
    have q : ∀ w' f', Wrs w' K1 n p f' → Turned (fun b => ¬ K1 b) w1 w' → Wrs w' K n p f' ∧ Turned (fun b => ¬ K b) w w' := fun w' f' h1 h2 =>
      ⟨h1.mono hKK, ht1.comp h2 fun b hb q => q.elim (fun q => q.elim) fun q k => q (hKK b k)⟩
    exact q
  have BX : Hid (∀ W, Turned (fun b => ¬ K1 b) w1 W → W.heap[w.heap.size]? = some (.cells #[.slice a L cap, .int .i64 (tn : Nat), .int .i64 (gn : Nat), .int .i64 (sn : Nat), .string r.bits] 61 (0, 0))) := by
    have q : ∀ W, Turned (fun b => ¬ K1 b) w1 W → W.heap[w.heap.size]? = some (.cells #[.slice a L cap, .int .i64 (tn : Nat), .int .i64 (gn : Nat), .int .i64 (sn : Nat), .string r.bits] 61 (0, 0)) := fun W t => by
      rw [t.block _ (by omega) fun q => q hKb]; exact hbx
    exact q
  have PI : Hid (∀ W, Turned (fun b => ¬ K1 b) w1 W → Ints W S a cap r.par) := by
    have q : ∀ W, Turned (fun b => ¬ K1 b) w1 W → Ints W S a cap r.par := fun W t => (h.turned ht1 fun _ _ q => q).turned t fun b q z => z (hKK b (hS b q))
    exact q
  have HW1 : Hid (w.alloc (.cells #[.slice a L cap, .int .i64 (tn : Nat), .int .i64 (gn : Nat), .int .i64 (sn : Nat), .string r.bits] 61) = w1) := hw1
  have TT : Hid (∀ W, Turned (fun b => ¬ K1 b) (w.alloc (.cells #[.slice a L cap, .int .i64 (tn : Nat), .int .i64 (gn : Nat), .int .i64 (sn : Nat), .string r.bits] 61)) W → Turned (fun b => ¬ K1 b) w1 W) := by
    have q : ∀ W, Turned (fun b => ¬ K1 b) (w.alloc (.cells #[.slice a L cap, .int .i64 (tn : Nat), .int .i64 (gn : Nat), .int .i64 (sn : Nat), .string r.bits] 61)) W → Turned (fun b => ¬ K1 b) w1 W := fun W q => by rw [← hw1]; exact q
    exact q
  have k0 := cell_of hbx 0 _ rfl
  have hlw := lt_of_block hbx
  by_cases h0 : L = 0
  · have HPAR : Hid (r.par = []) := List.eq_nil_of_length_eq_zero (by rw [← hL]; exact h0)
    subst h0
    clear hw1 hbx ht1 hz1 hW1 hKK hKb hK1 hS hl1 hl2 h g1 g2 g3 g4 g5 g6 g7 hL hn hW hpb htn hgn hsn s0 s2 sb k0 hlw
    have hA : Calls Try.prog 46 #[pt (p 1), .int .u32 (tn : Nat)] (w.alloc (.cells #[.slice a 0 cap, .int .i64 (tn : Nat), .int .i64 (gn : Nat), .int .i64 (sn : Nat), .string r.bits] 61)) _ := u32_wu (f := f) 1 tn (by rw [upd_self, HW1.out]; exact W1.out) (by have := HN3.out; omega) (by have := B.out; omega) (by have := LL.out.1; omega)
    go_enter Try.func52, Try.ntmps52
    go_wp2_with (first
      | (go_at_call 46; (with_reducible refine hA.mono ?_); rintro e w2 ⟨rfl, hws2, ht2⟩; have T2 : Hid (Turned (fun b => ¬ K1 b) w1 w2) := TT.out _ ht2; have hB : Calls Try.prog 46 #[pt (p 1), .int .u32 4294967295] w2 _ := u32_wu (f := f) 1 (4294967295) hws2 (by have := HN3.out; omega) (by decide) (by have := LL.out.1; simp only [List.length_append, num_length]; omega); clear hws2 ht2)
      | (go_at_call 46; (with_reducible refine hB.mono ?_); rintro e w3 ⟨rfl, hws3, ht3⟩; have T3 : Hid (Turned (fun b => ¬ K1 b) w1 w3) := T2.out.trans ht3 (fun _ _ q => q); have hC : Calls Try.prog 46 #[pt (p 1), .int .u32 4294967295] w3 _ := u32_wu (f := f) 1 (4294967295) hws3 (by have := HN3.out; omega) (by decide) (by have := LL.out.1; simp only [List.length_append, num_length]; omega); clear hws3 ht3)
      | (go_at_call 46; (with_reducible refine hC.mono ?_); rintro e w4 ⟨rfl, hws4, ht4⟩; have T4 : Hid (Turned (fun b => ¬ K1 b) w1 w4) := T3.out.trans ht4 (fun _ _ q => q); have hl4 := lt_of_block (BX.out w4 T4.out); have x4 := cell_of (BX.out w4 T4.out) 2 _ rfl; have hD := u16_wu (f := f) 1 gn hws4 (by have := HN3.out; omega) (by have := B.out; omega) (by have := LL.out.1; simp only [List.length_append, num_length]; omega); clear hws4 ht4)
      | (go_at_call 51; (with_reducible refine hD.mono ?_); rintro e w5 ⟨rfl, hws5, ht5⟩; have T5 : Hid (Turned (fun b => ¬ K1 b) w1 w5) := T4.out.trans ht5 (fun _ _ q => q); have hl5 := lt_of_block (BX.out w5 T5.out); have x5 := cell_of (BX.out w5 T5.out) 3 _ rfl; have hE := u8_wu (f := f) 1 sn hws5 (by have := HN3.out; omega) (by have := B.out; omega) (by have := LL.out.1; simp only [List.length_append, num_length]; omega); clear hws5 ht5)
      | (go_at_call 45; (with_reducible refine hE.mono ?_); rintro e w6 ⟨rfl, hws6, ht6⟩; have T6 : Hid (Turned (fun b => ¬ K1 b) w1 w6) := T5.out.trans ht6 (fun _ _ q => q)))
    go_end0
    obtain ⟨z1, z2⟩ := FIN.out w6 _ hws6 T6.out
    refine ⟨rfl, ?_, z2⟩
    rw [HRB.out]
    have hE0 : edgeB r = [] := by unfold edgeB; rw [if_neg (by rw [HPAR.out, List.length_nil]; omega)]
    rw [hE0, List.append_nil, upd_self]
    have e1 : firstN r = 4294967295 := by unfold firstN; rw [HPAR.out]
    have e2 : secondN r (f 2).length = 4294967295 := by unfold secondN; rw [if_neg (by rw [HPAR.out, List.length_nil]; omega), if_neg (by rw [HPAR.out]; simp)]
    rw [e1, e2]
    simpa only [List.append_assoc] using z1
  by_cases h1 : L = 1
  · obtain ⟨x, hx⟩ : ∃ x, r.par = [x] := List.length_eq_one_iff.1 (by rw [← hL]; exact h1)
    have hxb := HP.out x (by rw [hx]; simp)
    obtain ⟨y, rfl⟩ : ∃ y : Nat, x = (y : Int) := ⟨x.toNat, by omega⟩
    have HPAR : Hid (r.par = [(y : Int)]) := hx
    have HY : Hid (y < 131072) := (by omega : y < 131072)
    have hy : ((y : Nat) : Int) % 4294967296 = (y : Int) := by omega
    obtain ⟨g, off, rfl, hSg, hgl, c0⟩ := ints_at h 0 (y : Int) (by rw [hx]; rfl)
    rw [Nat.add_zero] at c0
    have hne : g ≠ w.heap.size := by omega
    subst h1
    clear hw1 hbx ht1 hz1 hW1 hKK hKb hK1 hS hl1 hl2 h g1 g2 g3 g4 g5 g6 g7 hL hn hW hpb htn hgn hsn s0 s2 sb k0 hlw
    clear hx hxb hSg h0
    have hA : Calls Try.prog 46 #[pt (p 1), .int .u32 (tn : Nat)] (w.alloc (.cells #[.slice (some ⟨g, off, none⟩) 1 cap, .int .i64 (tn : Nat), .int .i64 (gn : Nat), .int .i64 (sn : Nat), .string r.bits] 61)) _ := u32_wu (f := f) 1 tn (by rw [upd_self, HW1.out]; exact W1.out) (by have := HN3.out; omega) (by have := B.out; omega) (by have := LL.out.1; omega)
    go_enter Try.func52, Try.ntmps52
    go_wp2_with (first
      | (go_at_call 46; (with_reducible refine hA.mono ?_); rintro e w2 ⟨rfl, hws2, ht2⟩; have T2 : Hid (Turned (fun b => ¬ K1 b) w1 w2) := TT.out _ ht2; have hB : Calls Try.prog 46 #[pt (p 1), .int .u32 (y : Nat)] w2 _ := u32_wu (f := f) 1 (y) hws2 (by have := HN3.out; omega) (by have := HY.out; omega) (by have := LL.out.1; simp only [List.length_append, num_length]; omega); clear hws2 ht2)
      | (go_at_call 46; (with_reducible refine hB.mono ?_); rintro e w3 ⟨rfl, hws3, ht3⟩; have T3 : Hid (Turned (fun b => ¬ K1 b) w1 w3) := T2.out.trans ht3 (fun _ _ q => q); have hC : Calls Try.prog 46 #[pt (p 1), .int .u32 4294967295] w3 _ := u32_wu (f := f) 1 (4294967295) hws3 (by have := HN3.out; omega) (by decide) (by have := LL.out.1; simp only [List.length_append, num_length]; omega); clear hws3 ht3)
      | (go_at_call 46; (with_reducible refine hC.mono ?_); rintro e w4 ⟨rfl, hws4, ht4⟩; have T4 : Hid (Turned (fun b => ¬ K1 b) w1 w4) := T3.out.trans ht4 (fun _ _ q => q); have hl4 := lt_of_block (BX.out w4 T4.out); have x4 := cell_of (BX.out w4 T4.out) 2 _ rfl; have hD := u16_wu (f := f) 1 gn hws4 (by have := HN3.out; omega) (by have := B.out; omega) (by have := LL.out.1; simp only [List.length_append, num_length]; omega); clear hws4 ht4)
      | (go_at_call 51; (with_reducible refine hD.mono ?_); rintro e w5 ⟨rfl, hws5, ht5⟩; have T5 : Hid (Turned (fun b => ¬ K1 b) w1 w5) := T4.out.trans ht5 (fun _ _ q => q); have hl5 := lt_of_block (BX.out w5 T5.out); have x5 := cell_of (BX.out w5 T5.out) 3 _ rfl; have hE := u8_wu (f := f) 1 sn hws5 (by have := HN3.out; omega) (by have := B.out; omega) (by have := LL.out.1; simp only [List.length_append, num_length]; omega); clear hws5 ht5)
      | (go_at_call 45; (with_reducible refine hE.mono ?_); rintro e w6 ⟨rfl, hws6, ht6⟩; have T6 : Hid (Turned (fun b => ¬ K1 b) w1 w6) := T5.out.trans ht6 (fun _ _ q => q)))
    go_end0
    obtain ⟨z1, z2⟩ := FIN.out w6 _ hws6 T6.out
    refine ⟨rfl, ?_, z2⟩
    rw [HRB.out]
    have hE0 : edgeB r = [] := by unfold edgeB; rw [if_neg (by rw [HPAR.out, List.length_singleton]; omega)]
    rw [hE0, List.append_nil, upd_self]
    have e1 : firstN r = y := by unfold firstN; rw [HPAR.out]; rfl
    have e2 : secondN r (f 2).length = 4294967295 := by unfold secondN; rw [if_neg (by rw [HPAR.out, List.length_singleton]; omega), if_neg (by rw [HPAR.out]; simp)]
    rw [e1, e2]
    simpa only [List.append_assoc] using z1
  by_cases h2 : L = 2
  · obtain ⟨x, x', hx⟩ : ∃ x x', r.par = [x, x'] := len_two (by rw [← hL]; exact h2)
    have hxb := HP.out x (by rw [hx]; simp)
    have hxb' := HP.out x' (by rw [hx]; simp)
    obtain ⟨y, rfl⟩ : ∃ y : Nat, x = (y : Int) := ⟨x.toNat, by omega⟩
    obtain ⟨y', rfl⟩ : ∃ y : Nat, x' = (y : Int) := ⟨x'.toNat, by omega⟩
    have HPAR : Hid (r.par = [(y : Int), (y' : Int)]) := hx
    have HY : Hid (y < 131072 ∧ y' < 131072) := (by omega : y < 131072 ∧ y' < 131072)
    have hy : ((y : Nat) : Int) % 4294967296 = (y : Int) := by omega
    have hy' : ((y' : Nat) : Int) % 4294967296 = (y' : Int) := by omega
    obtain ⟨g, off, rfl, hSg, hgl, c0⟩ := ints_at h 0 (y : Int) (by rw [hx]; rfl)
    rw [Nat.add_zero] at c0
    obtain ⟨g', off', hgg, -, -, c1⟩ := ints_at h 1 (y' : Int) (by rw [hx]; rfl)
    injection hgg with hgg
    injection hgg with q1 q2
    subst q1
    subst q2
    have hne : g ≠ w.heap.size := by omega
    subst h2
    clear hw1 hbx ht1 hz1 hW1 hKK hKb hK1 hS hl1 hl2 h g1 g2 g3 g4 g5 g6 g7 hL hn hW hpb htn hgn hsn s0 s2 sb k0 hlw
    clear hx hxb hxb' hSg h0 h1
    have hA : Calls Try.prog 46 #[pt (p 1), .int .u32 (tn : Nat)] (w.alloc (.cells #[.slice (some ⟨g, off, none⟩) 2 cap, .int .i64 (tn : Nat), .int .i64 (gn : Nat), .int .i64 (sn : Nat), .string r.bits] 61)) _ := u32_wu (f := f) 1 tn (by rw [upd_self, HW1.out]; exact W1.out) (by have := HN3.out; omega) (by have := B.out; omega) (by have := LL.out.1; omega)
    go_enter Try.func52, Try.ntmps52
    go_wp2_with (first
      | (go_at_call 46; (with_reducible refine hA.mono ?_); rintro e w2 ⟨rfl, hws2, ht2⟩; have T2 : Hid (Turned (fun b => ¬ K1 b) w1 w2) := TT.out _ ht2; have hB : Calls Try.prog 46 #[pt (p 1), .int .u32 (y : Nat)] w2 _ := u32_wu (f := f) 1 (y) hws2 (by have := HN3.out; omega) (by have := HY.out; omega) (by have := LL.out.1; simp only [List.length_append, num_length]; omega); clear hws2 ht2)
      | (go_at_call 46; (with_reducible refine hB.mono ?_); rintro e w3 ⟨rfl, hws3, ht3⟩; have T3 : Hid (Turned (fun b => ¬ K1 b) w1 w3) := T2.out.trans ht3 (fun _ _ q => q); have hC : Calls Try.prog 46 #[pt (p 1), .int .u32 (y' : Nat)] w3 _ := u32_wu (f := f) 1 (y') hws3 (by have := HN3.out; omega) (by have := HY.out; omega) (by have := LL.out.1; simp only [List.length_append, num_length]; omega); clear hws3 ht3)
      | (go_at_call 46; (with_reducible refine hC.mono ?_); rintro e w4 ⟨rfl, hws4, ht4⟩; have T4 : Hid (Turned (fun b => ¬ K1 b) w1 w4) := T3.out.trans ht4 (fun _ _ q => q); have hl4 := lt_of_block (BX.out w4 T4.out); have x4 := cell_of (BX.out w4 T4.out) 2 _ rfl; have hD := u16_wu (f := f) 1 gn hws4 (by have := HN3.out; omega) (by have := B.out; omega) (by have := LL.out.1; simp only [List.length_append, num_length]; omega); clear hws4 ht4)
      | (go_at_call 51; (with_reducible refine hD.mono ?_); rintro e w5 ⟨rfl, hws5, ht5⟩; have T5 : Hid (Turned (fun b => ¬ K1 b) w1 w5) := T4.out.trans ht5 (fun _ _ q => q); have hl5 := lt_of_block (BX.out w5 T5.out); have x5 := cell_of (BX.out w5 T5.out) 3 _ rfl; have hE := u8_wu (f := f) 1 sn hws5 (by have := HN3.out; omega) (by have := B.out; omega) (by have := LL.out.1; simp only [List.length_append, num_length]; omega); clear hws5 ht5)
      | (go_at_call 45; (with_reducible refine hE.mono ?_); rintro e w6 ⟨rfl, hws6, ht6⟩; have T6 : Hid (Turned (fun b => ¬ K1 b) w1 w6) := T5.out.trans ht6 (fun _ _ q => q)))
    go_end0
    obtain ⟨z1, z2⟩ := FIN.out w6 _ hws6 T6.out
    refine ⟨rfl, ?_, z2⟩
    rw [HRB.out]
    have hE0 : edgeB r = [] := by unfold edgeB; rw [if_neg (by rw [HPAR.out]; simp)]
    rw [hE0, List.append_nil, upd_self]
    have e1 : firstN r = y := by unfold firstN; rw [HPAR.out]; rfl
    have e2 : secondN r (f 2).length = y' := by unfold secondN; rw [if_neg (by rw [HPAR.out]; simp), if_pos (by rw [HPAR.out]; rfl), HPAR.out]; simp []
    rw [e1, e2]
    simpa only [List.append_assoc] using z1
  have h3 : 2 < L := by omega
  have d2 : decide ((2 : Int) < (L : Int)) = true := decide_eq_true (by omega)
  have d0 : decide ((0 : Int) < (L : Int)) = true := decide_eq_true (by omega)
  have hL16 : L ≤ 16 := by have := HPL.out; omega
  obtain ⟨m, hm⟩ : ∃ m, m = (f 2).length := ⟨_, rfl⟩
  have HM : Hid (m = (f 2).length) := hm
  have hle : Calls Try.prog 53 #[pt (p 2)] (w.alloc (.cells #[.slice a L cap, .int .i64 (tn : Nat), .int .i64 (gn : Nat), .int .i64 (sn : Nat), .string r.bits] 61)) fun e w' => e = .returned (.int .i64 (m : Nat)) ∧ (w.alloc (.cells #[.slice a L cap, .int .i64 (tn : Nat), .int .i64 (gn : Nat), .int .i64 (sn : Nat), .string r.bits] 61)) = w' := by
    rw [HW1.out, hm]; exact len_ws hW1 2 (by omega)
  have hmb : m ≤ 1000000000 := by rw [hm]; exact hl2
  obtain ⟨q4, hq4⟩ : ∃ q4, q4 = m / 4 := ⟨_, rfl⟩
  have hm4 : ((m : Nat) : Int) / 4 = (q4 : Int) := by omega
  have hm5 : ((q4 : Nat) : Int) % 4294967296 = (q4 : Int) := by omega
  obtain ⟨s4, hs4⟩ : ∃ s4, s4 = 2147483648 + q4 := ⟨_, rfl⟩
  have hm6 : (2147483648 + ((q4 : Nat) : Int)) % 4294967296 = (s4 : Int) := by omega
  have HQ : Hid (s4 = 2147483648 + m / 4 ∧ s4 < 4294967296) := (by omega : s4 = 2147483648 + m / 4 ∧ s4 < 4294967296)
  obtain ⟨L1, hL1⟩ : ∃ L1, L1 + 1 = L := ⟨L - 1, by omega⟩
  have hLs : ((L : Nat) : Int) - 1 = (L1 : Int) := by omega
  have HL1 : Hid (L1 + 1 = L) := hL1
  obtain ⟨L2, hL2⟩ : ∃ L2, L2 = r.par.length - 2 := ⟨_, rfl⟩
  have HL2 : Hid (L2 = r.par.length - 2 ∧ L2 + 2 = L) := ⟨hL2, by omega⟩
  have hcut : ∃ a' cap', (∀ W, (Instr.slice 57 (.slice a L cap) (some (.int .i64 1)) (some (.int .i64 (L1 : Int))) none).run Try.prog W = .ok (.slice a' L2 cap') W) ∧ ∀ W, Turned (fun b => ¬ K1 b) w1 W → Ints W S a' cap' ((r.par.drop 1).take L2) := by
    obtain ⟨a', cap', e1, e2⟩ := ints_cut S a cap r.par (by omega) w h
    rw [← hL2, show r.par.length - 1 = L1 by omega, ← hL] at e1
    refine ⟨a', cap', e1, fun W t => ?_⟩
    rw [hL2]
    exact e2 W (PI.out W t)
  obtain ⟨a', cap', hsl, hcr⟩ := hcut
  have HCR : Hid (∀ W, Turned (fun b => ¬ K1 b) w1 W → Ints W S a' cap' ((r.par.drop 1).take L2)) := hcr
  clear hm hq4 hs4 hL1 hL2 hcr h3 hmb
  clear hw1 hbx ht1 hz1 hW1 hKK hKb hK1 hS hl1 hl2 h g1 g2 g3 g4 g5 g6 g7 hL hn hW hpb htn hgn hsn s0 s2 sb k0 hlw
  go_enter Try.func52, Try.ntmps52
  go_wp2_with (go_at_call 53; (with_reducible refine hle.mono ?_); rintro e w2 ⟨rfl, rfl⟩)
  rw [hm6]
  have HS : Hid (MidRel p f n ((r.par.drop 1).take L2) K1 w1 L2 (.int .i64 0) (w.alloc (.cells #[.slice a L cap, .int .i64 (tn : Nat), .int .i64 (gn : Nat), .int .i64 (sn : Nat), .string r.bits] 61))) := by
    refine ⟨0, ?_, rfl, ?_, ?_⟩
    · have h1 := HL2.out.1
      have h2 := HL2.out.2
      have h3 := HL.out
      simp only [List.length_take, List.length_drop]
      omega
    · rw [HW1.out]
      simpa [midB, upd_self] using W1.out
    · rw [HW1.out]; exact Turned.refl _ _
  go_loopg [28] L2 (fun g i wr => MidRel p f n ((r.par.drop 1).take L2) K1 w1 g i wr)
  case atStart => exact HS.out
  case round =>
    obtain ⟨j, hjg, rfl, hws, htr⟩ := hrel
    have G : Hid (j + gk = ((r.par.drop 1).take L2).length) := hjg
    have WS : Hid (Wrs wr K1 n p (upd f 2 (f 2 ++ midB (((r.par.drop 1).take L2).take j)))) := hws
    have T : Hid (Turned (fun b => ¬ K1 b) w1 wr) := htr
    have CL : Hid (((r.par.drop 1).take L2).length = L2) := by
      have h1 := HL2.out.1
      have h2 := HL2.out.2
      have h3 := HL.out
      have q : ((r.par.drop 1).take L2).length = L2 := by simp only [List.length_take, List.length_drop]; omega
      exact q
    clear hjg hws htr HS
    by_cases hlt : j < L2
    · obtain ⟨x, hx⟩ : ∃ x, ((r.par.drop 1).take L2)[j]? = some x := ⟨_, List.getElem?_eq_getElem (by rw [CL.out]; exact hlt)⟩
      have hxb := HP.out x (List.mem_of_mem_drop (List.mem_of_mem_take (List.mem_of_getElem? hx)))
      obtain ⟨y, rfl⟩ : ∃ y : Nat, x = (y : Int) := ⟨x.toNat, by omega⟩
      obtain ⟨g, off, rfl, -, hgl, c0⟩ := ints_at (HCR.out wr T.out) j (y : Int) hx
      have hy : ((y : Nat) : Int) % 4294967296 = (y : Int) := by omega
      have C : Hid (((r.par.drop 1).take L2)[j]? = some (y : Int)) := hx
      have hA := u32_wu (f := f) 2 y WS.out (by have := HN3.out; omega) (by omega) (by
        have := LL.out.2; have h1 := HL2.out.2; have h2 := CL.out
        simp only [List.length_append, midB_length, List.length_take] at h2 ⊢; omega)
      clear hx hxb
      go_wp2_with (go_at_call 46; (with_reducible refine hA.mono ?_); rintro e w2 ⟨rfl, hws2, ht2⟩)
      go_roundg (gk - 1)
      case measure => have := G.out; have := CL.out; omega
      case rel =>
        refine ⟨j + 1, by have := G.out; have := CL.out; omega, by have := HL2.out.2; simp [wrap64]; omega, ?_, T.out.trans ht2 fun _ _ q => q⟩
        rw [midB_snoc _ j _ C.out, ← List.append_assoc]
        exact hws2
    · have hj : j = L2 := by have := G.out; have := CL.out; omega
      have htk : ((r.par.drop 1).take L2).take j = (r.par.drop 1).take L2 := List.take_of_length_le (by rw [CL.out]; omega)
      rw [htk] at WS
      obtain ⟨x, hx⟩ : ∃ x, r.par[L1]? = some x := ⟨_, List.getElem?_eq_getElem (by have := HL1.out; have := HL.out; omega)⟩
      have hxb := HP.out x (List.mem_of_getElem? hx)
      obtain ⟨y, rfl⟩ : ∃ y : Nat, x = (y : Int) := ⟨x.toNat, by omega⟩
      obtain ⟨x2, hx2⟩ : ∃ x, r.par[0]? = some x := ⟨_, List.getElem?_eq_getElem (by have := HL1.out; have := HL.out; omega)⟩
      have hxb2 := HP.out x2 (List.mem_of_getElem? hx2)
      obtain ⟨z, rfl⟩ : ∃ y : Nat, x2 = (y : Int) := ⟨x2.toNat, by omega⟩
      obtain ⟨g, off, rfl, -, hgl, c0⟩ := ints_at (PI.out wr T.out) L1 (y : Int) hx
      have hy : ((y : Nat) : Int) % 4294967296 = (y : Int) := by omega
      obtain ⟨y2, hy2⟩ : ∃ y2, y2 = y + 2147483648 := ⟨_, rfl⟩
      have hym : ((y : Nat) : Int) + 2147483648 = (y2 : Int) := by omega
      have hyk : (((y : Nat) : Int) + 2147483648) % 4294967296 = (y2 : Int) := by omega
      have hz : ((z : Nat) : Int) % 4294967296 = (z : Int) := by omega
      have k0 := cell_of (BX.out wr T.out) 0 _ rfl
      have hlw := lt_of_block (BX.out wr T.out)
      have PZ : Hid (r.par[L1]? = some (y : Int) ∧ r.par[0]? = some (z : Int) ∧ y2 = y + 2147483648 ∧ z < 4294967296) := ⟨hx, hx2, hy2, by omega⟩
      have hA0 := u32_wu (f := f) 2 y2 WS.out (by have := HN3.out; omega) (by omega) (by
        have := LL.out.2; have h1 := HL2.out.2; have h2 := CL.out
        simp only [List.length_append, midB_length, List.length_take] at h2 ⊢; omega)
      clear hx hxb hx2 hxb2 hy2 hj htk
      have PW : Hid (∀ W, Turned (fun b => ¬ K1 b) w1 W → W.cell? ⟨g, off, none⟩ = some (.int .i64 (z : Int)) ∧ g < W.heap.size) := by
        have q : ∀ W, Turned (fun b => ¬ K1 b) w1 W → W.cell? ⟨g, off, none⟩ = some (.int .i64 (z : Int)) ∧ g < W.heap.size := fun W t => by
          obtain ⟨g2, off2, hgg, -, hl2, c2⟩ := ints_at (PI.out W t) 0 (z : Int) PZ.out.2.1
          injection hgg with hgg
          injection hgg with q1 q2
          subst q1
          subst q2
          exact ⟨c2, hl2⟩
        exact q
      go_wp2_with (first
        | (go_at_call 46; (with_reducible refine hA0.mono ?_); rintro e v2 ⟨rfl, hws2, ht2⟩; have V2 : Hid (Turned (fun b => ¬ K1 b) w1 v2) := T.out.trans ht2 (fun _ _ q => q); obtain ⟨y0, yl⟩ := PW.out v2 V2.out; have y3 := cell_of (BX.out v2 V2.out) 0 _ rfl; have y4 := cell_of (BX.out v2 V2.out) 1 _ rfl; have yl2 := lt_of_block (BX.out v2 V2.out); have hA : Calls Try.prog 46 #[pt (p 1), .int .u32 (tn : Nat)] v2 _ := u32_wu (f := (upd f 2 (f 2 ++ midB ((r.par.drop 1).take L2) ++ num y2 4))) 1 tn (by rw [upd_self (upd f 2 (f 2 ++ midB ((r.par.drop 1).take L2) ++ num y2 4)) 1]; exact hws2) (by have := HN3.out; omega) (by have := B.out; omega) (by have := LL.out.1; rw [upd_other _ _ _ _ (by decide)]; omega); clear hws2 ht2 hA0)
        | (go_at_call 46; (with_reducible refine hA.mono ?_); rintro e w2 ⟨rfl, hws2, ht2⟩; have T2 : Hid (Turned (fun b => ¬ K1 b) w1 w2) := V2.out.trans ht2 (fun _ _ q => q); have hB : Calls Try.prog 46 #[pt (p 1), .int .u32 (z : Nat)] w2 _ := u32_wu (f := (upd f 2 (f 2 ++ midB ((r.par.drop 1).take L2) ++ num y2 4))) 1 (z) hws2 (by have := HN3.out; omega) (by have := PZ.out.2.2.2; omega) (by have := LL.out.1; rw [upd_other _ _ _ _ (by decide)]; simp only [List.length_append, num_length]; omega); clear hws2 ht2)
        | (go_at_call 46; (with_reducible refine hB.mono ?_); rintro e w3 ⟨rfl, hws3, ht3⟩; have T3 : Hid (Turned (fun b => ¬ K1 b) w1 w3) := T2.out.trans ht3 (fun _ _ q => q); have hC : Calls Try.prog 46 #[pt (p 1), .int .u32 (s4 : Nat)] w3 _ := u32_wu (f := (upd f 2 (f 2 ++ midB ((r.par.drop 1).take L2) ++ num y2 4))) 1 (s4) hws3 (by have := HN3.out; omega) (by have := HQ.out.2; omega) (by have := LL.out.1; rw [upd_other _ _ _ _ (by decide)]; simp only [List.length_append, num_length]; omega); clear hws3 ht3)
        | (go_at_call 46; (with_reducible refine hC.mono ?_); rintro e w4 ⟨rfl, hws4, ht4⟩; have T4 : Hid (Turned (fun b => ¬ K1 b) w1 w4) := T3.out.trans ht4 (fun _ _ q => q); have hl4 := lt_of_block (BX.out w4 T4.out); have x4 := cell_of (BX.out w4 T4.out) 2 _ rfl; have hD := u16_wu (f := (upd f 2 (f 2 ++ midB ((r.par.drop 1).take L2) ++ num y2 4))) 1 gn hws4 (by have := HN3.out; omega) (by have := B.out; omega) (by have := LL.out.1; rw [upd_other _ _ _ _ (by decide)]; simp only [List.length_append, num_length]; omega); clear hws4 ht4)
        | (go_at_call 51; (with_reducible refine hD.mono ?_); rintro e w5 ⟨rfl, hws5, ht5⟩; have T5 : Hid (Turned (fun b => ¬ K1 b) w1 w5) := T4.out.trans ht5 (fun _ _ q => q); have hl5 := lt_of_block (BX.out w5 T5.out); have x5 := cell_of (BX.out w5 T5.out) 3 _ rfl; have hE := u8_wu (f := (upd f 2 (f 2 ++ midB ((r.par.drop 1).take L2) ++ num y2 4))) 1 sn hws5 (by have := HN3.out; omega) (by have := B.out; omega) (by have := LL.out.1; rw [upd_other _ _ _ _ (by decide)]; simp only [List.length_append, num_length]; omega); clear hws5 ht5)
        | (go_at_call 45; (with_reducible refine hE.mono ?_); rintro e w6 ⟨rfl, hws6, ht6⟩; have T6 : Hid (Turned (fun b => ¬ K1 b) w1 w6) := T5.out.trans ht6 (fun _ _ q => q)))
      go_end0
      obtain ⟨z1, z2⟩ := FIN.out w6 _ hws6 T6.out
      refine ⟨rfl, ?_, z2⟩
      rw [HRB.out]
      have e1 : firstN r = z := by
        have := PZ.out.2.1
        unfold firstN
        cases hp : r.par with
        | nil => rw [hp] at this; simp at this
        | cons u l => rw [hp] at this; obtain rfl := Option.some.inj this; simp
      have e2 : secondN r (f 2).length = s4 := by
        unfold secondN
        rw [if_pos (by have := HL.out; have := HL2.out; omega), HQ.out.1, HM.out]
      have e3 : edgeB r = midB ((r.par.drop 1).take L2) ++ num y2 4 := by
        unfold edgeB
        rw [if_pos (by have := HL.out; have := HL2.out; omega), ← HL2.out.1, show r.par.length - 1 = L1 by have := HL1.out; have := HL.out; omega, PZ.out.1, PZ.out.2.2.1]
        simp
      rw [e1, e2, e3]
      rw [upd_other _ _ _ _ (by decide)] at z1
      simpa only [List.append_assoc] using z1

end Go.Proofs.Ytfeljngmidhajaa
