/- Packed. -/
import Derived.Test.YtofcogekgcgjhaaGreatDoorZzbu
set_option linter.unusedVariables false
set_option linter.unusedSimpArgs false
set_option maxRecDepth 100000
namespace Go.Proofs.YtofcogekgcgjhaaGreatDoor
open Go.RowKit Go.Mine Go.Mine.Ac
/-! ### The document's side -/
def K1 (w w' : World) (d Q : Nat) : Prop := RkIs w' (fun b => w.heap.size ≤ b ∧ b < w'.heap.size) d ⟨Q, [], [], [], [], 0, false⟩ ∧ Turned (fun _ => False) w w'
theorem kd_new (Q : Nat) (h : Q ≤ 16777216) (w : World) : Calls Tryz.prog 56 #[.int .i64 (Q : Nat)] w fun e w' => ∃ d, e = .returned (.tuple #[pt d, .int .i64 0]) ∧ K1 w w' d Q :=
 (knew_any (Q : Nat) w).mono fun e w' y => by
  have hn : newDk (Q : Nat) = some ⟨Q, [], [], [], [], 0, false⟩ := by unfold newDk; rw [if_neg (by omega)]; rfl
  rcases y with ⟨y, -, -⟩ | ⟨D, d, y, h1, h2, h3⟩
  ·rw [hn] at y; cases y
  ·rw [hn] at y
   obtain rfl := Option.some.inj y
   exact ⟨d, h1, h2.widen fun b hb z => ⟨z, hb⟩, h3⟩
def K2 (w w' : World) (d Q : Nat) : Prop := (∃ S, RkIs w' S d (dk1 Q emp)) ∧ Turned (fun _ => False) w w'
theorem kd_open {w w1 : World} {d Q : Nat} (hQ : Q ≤ 16777216) (h : K1 w w1 d Q) : Calls Tryz.prog 101 #[pt d] w1 fun e w' => ∃ r, e = .returned (.tuple #[pt r, .int .i64 0]) ∧ K2 w w' d Q := by
 obtain ⟨h1, h2⟩ := h
 refine (kopenNew_any (D1 := ⟨Q, [⟨emp, 0⟩], [(logB, 0)], [], [⟨emp, logB, 0⟩], 0, false⟩) (D2 := dk1 Q emp) h1 (dk0_ok Q hQ) (by simp) (by simp) (fun b hb => hb.2) rfl rfl rfl).mono fun e w' ⟨S, a1, a2, a3, a4, r, rs, tv, cv, a5, a6, a7⟩ => ?_
 exact ⟨r, a5, ⟨S, a1⟩, h2.comp a4 fun i hi y => y.elim False.elim fun y => by omega⟩
theorem kd_index {w w2 : World} {d Q : Nat} (hQ : Q ≤ 16777216) (h : K2 w w2 d Q) (n : Int) : Calls Tryz.prog 102 #[pt d, .int .i64 n] w2 fun e w' => ∃ c, e = .returned (.tuple #[pt c, .int .i64 0]) ∧ Turned (fun _ => False) w w' := by
 obtain ⟨⟨S, h1⟩, h2⟩ := h
 exact (kxopenNew_any h1 (dk1_ok Q hQ) rfl n).mono fun e w' ⟨c, a1, a2, a3, a4, a5⟩ => ⟨c, a1, h2.trans a5 fun _ _ z => z⟩
theorem vnew_new (so xo : Option Addr) (w : World) : Calls Tryz.prog 42 #[.pointer so, .pointer xo] w fun e w' => ∃ v, e = .returned (pt v) ∧ w.heap.size ≤ v ∧ w'.heap[v]? = some (.cells #[.pointer so, .pointer xo] 174) ∧ Turned (fun _ => False) w w' :=
 (vnew_any so xo w).mono fun e w' ⟨a, b⟩ => by
  obtain ⟨tA, xA⟩ := one_box (w := w) (.cells #[.pointer so, .pointer xo] 174)
  subst b
  exact ⟨_, a, Nat.le_refl _, xA, tA⟩
def BgPost (w : World) (e : Ending) (w' : World) : Prop :=
 ∃ r d q p v a b c, e = .returned (pt r) ∧ w'.heap[r]? = some (.cells #[pt d, pt q, pt p, pt v, pt a, pt b, pt c] 94) ∧ Sc w w' w' (fun b => b = r) d q p (dk1 16777216 emp) noSt noIx
set_option maxHeartbeats 4000000 in
theorem begun18_any (w : World) : Calls Tryz.prog 40 #[] w (BgPost w) := by
 obtain ⟨Z, hZ⟩ : ∃ Z, Z = BgPost w := ⟨_, rfl⟩
 have HZ : Hid (Z = BgPost w) := hZ
 rw [← hZ]
 have HN : Hid (Calls Tryz.prog 24 #[.int .i64 16777216] w fun e w' => ∃ d, e = .returned (.tuple #[pt d, .int .i64 0]) ∧ A1 w w' d 16777216) := hidS (st_new 16777216 (by decide) w)
 have HO : Hid (∀ w1 d, A1 w w1 d 16777216 → Calls Tryz.prog 25 #[pt d] w1 fun e w' => ∃ r, e = .returned (.tuple #[pt r, .int .i64 0]) ∧ A2 w w' d r 16777216) := fun w1 d h => st_open (by decide) h
 have HI : Hid (∀ w2 d r, A2 w w2 d r 16777216 → Calls Tryz.prog 13 #[pt d, .int .i64 0] w2 fun e w' => ∃ p, e = .returned (.tuple #[pt p, .int .i64 0]) ∧ PwAt w w' (fun b => w.heap.size ≤ b ∧ b < w'.heap.size) d r p (dk1 16777216 emp) noSt noIx) := fun w2 d r h => st_index (by decide) h 0
 have HK : Hid (∀ W, Calls Tryz.prog 56 #[.int .i64 16777216] W fun e w' => ∃ d, e = .returned (.tuple #[pt d, .int .i64 0]) ∧ K1 W w' d 16777216) := fun W => kd_new 16777216 (by decide) W
 have HKO : Hid (∀ W w1 d, K1 W w1 d 16777216 → Calls Tryz.prog 101 #[pt d] w1 fun e w' => ∃ r, e = .returned (.tuple #[pt r, .int .i64 0]) ∧ K2 W w' d 16777216) := fun W w1 d h => kd_open (by decide) h
 have HKI : Hid (∀ W w2 d, K2 W w2 d 16777216 → Calls Tryz.prog 102 #[pt d, .int .i64 0] w2 fun e w' => ∃ c, e = .returned (.tuple #[pt c, .int .i64 0]) ∧ Turned (fun _ => False) W w') := fun W w2 d h => kd_index (by decide) h 0
 have FIN : Hid (∀ w3 w6 w7 d q p v a b c, PwAt w w3 (fun b => w.heap.size ≤ b ∧ b < w3.heap.size) d q p (dk1 16777216 emp) noSt noIx → Turned (fun _ => False) w3 w6 → Turned (fun _ => False) w6 w7 → BgPost w (.returned (pt w7.heap.size)) (w7.alloc (.cells #[pt d, pt q, pt p, pt v, pt a, pt b, pt c] 94))) := fun w3 w6 w7 d q p v a b c h t t2 => by
  obtain ⟨tA, xA⟩ := one_box (w := w7) (.cells #[pt d, pt q, pt p, pt v, pt a, pt b, pt c] 94)
  have tt := t.trans t2 fun _ _ z => z
  exact ⟨_, d, q, p, v, a, b, c, rfl, xA, _, (h.still tt).still tA, fun y hy => Nat.lt_of_lt_of_le (Nat.lt_of_lt_of_le hy.2 tt.size) tA.size, fun y hy => ⟨fun z => by have := tt.size; omega, by rw [hy]; exact lt_of_block xA⟩, Turned.refl _ _⟩
 clear hZ
 go_enter Tryz.func40, Tryz.ntmps40
 go_wp2_with (first
  | (go_at_call 24; (with_reducible refine HN.out.mono ?_); rintro e w1 ⟨d, rfl, y1⟩; replace y1 : Hid _ := hidS y1)
  | (go_at_call 25; (with_reducible refine (HO.out _ d y1.out).mono ?_); rintro e w2 ⟨q, rfl, y2⟩; replace y2 : Hid _ := hidS y2)
  | (go_at_call 13; (with_reducible refine (HI.out _ d q y2.out).mono ?_); rintro e w3 ⟨p, rfl, y3⟩; replace y3 : Hid _ := hidS y3)
  | (go_at_call 56; (with_reducible refine (HK.out w3).mono ?_); rintro e w4 ⟨a, rfl, y4⟩; replace y4 : Hid _ := hidS y4)
  | (go_at_call 101; (with_reducible refine (HKO.out w3 w4 a y4.out).mono ?_); rintro e w5 ⟨b, rfl, y5⟩; replace y5 : Hid _ := hidS y5)
  | (go_at_call 102; (with_reducible refine (HKI.out w3 w5 a y5.out).mono ?_); rintro e w6 ⟨c, rfl, y6⟩; replace y6 : Hid _ := hidS y6)
  | (go_at_call 42; (with_reducible refine (vnew_new (some ⟨q, 0, none⟩) (some ⟨p, 0, none⟩) w6).mono ?_); rintro e w7 ⟨v, rfl, -, -, y7⟩; replace y7 : Hid _ := hidS y7))
 rw [HZ.out]
 exact FIN.out w3 w6 w7 d q p v a b c y3.out y6.out y7.out
structure VN (pv : Option Addr) (W : World) (c : Int) : Prop where
 h43 : ∀ W', Turned (fun _ => False) W W' → Calls Tryz.prog 43 #[.pointer pv] W' fun e w' => e = .returned (.int .i64 c) ∧ W' = w'
 h44 : ∀ W', Turned (fun _ => False) W W' → Calls Tryz.prog 44 #[.pointer pv] W' fun e w' => e = .returned (.int .i64 0) ∧ Turned (fun _ => False) W' w'
theorem VN.row {pv : Option Addr} {W : World} {c n : Int} (h : VN pv W c) (hn : n < 0 ∨ c ≤ n) {W' : World} (t : Turned (fun _ => False) W W') : Calls Tryz.prog 103 #[.pointer pv, .int .i64 n] W' fun e w' => e = .returned (.tuple #[noneRow, .bool false]) ∧ Turned (fun _ => False) W' w' :=
 vrow_out (fun W2 t2 => h.h43 W2 (t.trans t2 fun _ _ z => z)) hn
theorem VN.h45 {pv : Option Addr} {W : World} {c n : Int} (h : VN pv W c) (hn : n < 0 ∨ c ≤ n) (W' : World) (t : Turned (fun _ => False) W W') : Calls Tryz.prog 45 #[.pointer pv, .int .i64 n] W' fun e w' => e = .returned (.int .i64 1024) ∧ Turned (fun _ => False) W w' :=
 (vgen_out (h.row hn t)).mono fun e w' ⟨a, b⟩ => ⟨a, t.trans b fun _ _ z => z⟩
theorem VN.h46 {pv : Option Addr} {W : World} {c n : Int} (h : VN pv W c) (hn : n < 0 ∨ c ≤ n) (W' : World) (t : Turned (fun _ => False) W W') : Calls Tryz.prog 46 #[.pointer pv, .int .i64 n] W' fun e w' => e = .returned (.slice none 0 0) ∧ Turned (fun _ => False) W w' :=
 (vcontent_out (h.row hn t)).mono fun e w' ⟨a, b⟩ => ⟨a, t.trans b fun _ _ z => z⟩
theorem VN.h47 {pv : Option Addr} {W : World} {c n : Int} (h : VN pv W c) (hn : n < 0 ∨ c ≤ n) (W' : World) (t : Turned (fun _ => False) W W') : Calls Tryz.prog 47 #[.pointer pv, .int .i64 n] W' fun e w' => e = .returned (.slice none 0 0) ∧ Turned (fun _ => False) W w' :=
 (vparents_out (h.row hn t)).mono fun e w' ⟨a, b⟩ => ⟨a, t.trans b fun _ _ z => z⟩
theorem VN.h48 {pv : Option Addr} {W : World} {c n : Int} {path : ByteArray} (h : VN pv W c) (W' : World) (t : Turned (fun _ => False) W W') : Calls Tryz.prog 48 #[.pointer pv, .int .i64 n, .string path] W' fun e w' => e = .returned (.bool true) ∧ Turned (fun _ => False) W w' :=
 (vmay_out (k := 0) (fun W2 t2 => (h.h44 W2 (t.trans t2 fun _ _ z => z)).mono fun e w' ⟨a, b⟩ => ⟨a, t2.trans b fun _ _ z => z⟩) (by omega)).mono fun e w' ⟨a, b⟩ => ⟨a, t.trans b fun _ _ z => z⟩
theorem vn_nil (W : World) : VN none W 0 := ⟨fun W' t => vcommits_nil W', fun W' t => (vindexed_nil W').mono fun e w' ⟨a, b⟩ => ⟨a, b ▸ Turned.refl _ _⟩⟩
theorem vn_of {W : World} {v : Nat} {sv xv : Value} {c L : Int} (hb : W.heap[v]? = some (.cells #[sv, xv] 174)) (hc : ∀ W', Turned (fun _ => False) W W' → Calls Tryz.prog 30 #[sv] W' fun e w' => e = .returned (.int .i64 c) ∧ W' = w') (hl : ∀ W', Turned (fun _ => False) W W' → Calls Tryz.prog 15 #[xv] W' fun e w' => e = .returned (.int .i64 L) ∧ Turned (fun _ => False) W' w') (h0 : min L c = 0) : VN (some ⟨v, 0, none⟩) W c := by
 have B : ∀ {W'}, Turned (fun _ => False) W W' → Blk W' v #[sv, xv] 174 := fun t => boxed hb t id
 refine ⟨fun W' t => vcommits_any (B t) (hc W' t), fun W' t => ?_⟩
 have := vindexed_any (B t) (fun W2 t2 => hc W2 (t.trans t2 fun _ _ z => z)) fun W2 t2 => hl W2 (t.trans t2 fun _ _ z => z)
 rw [h0] at this
 exact this
theorem vn_A {w W : World} {O : Nat → Prop} {d q p v : Nat} {D : Dk} {s : St} {x : Ix} (h : PwAt w W O d q p D s x) (hx : 0 ≤ x.len) (hb : W.heap[v]? = some (.cells #[.pointer none, pt p] 174)) : VN (some ⟨v, 0, none⟩) W 0 :=
 vn_of hb (fun W' t => scommits_nil W') (fun W' t => by
  obtain ⟨S, rs, rx, h, ho⟩ := h.still t
  obtain ⟨lv, gv, h2⟩ := h.ix
  exact xlen_any h2 h.iok) (by omega)
theorem vn_B {W : World} {v : Nat} (hb : W.heap[v]? = some (.cells #[.pointer none, .pointer none] 174)) : VN (some ⟨v, 0, none⟩) W 0 :=
 vn_of hb (fun W' t => scommits_nil W') (fun W' t => (xlen_nil W').mono fun e w' ⟨a, b⟩ => ⟨a, b ▸ Turned.refl _ _⟩) rfl
theorem scom {w W : World} {O : Nat → Prop} {d q p : Nat} {D : Dk} {s : St} {x : Ix} (h : PwAt w W O d q p D s x) (W' : World) (t : Turned (fun _ => False) W W') : Calls Tryz.prog 30 #[pt q] W' fun e w' => e = .returned (.int .i64 (s.commits.length : Nat)) ∧ W' = w' := by
 obtain ⟨S, rs, rx, h, ho⟩ := h.still t
 obtain ⟨tv, cv, h1⟩ := h.st
 exact scommits_any h1
theorem vn_C {w W : World} {O : Nat → Prop} {d q p v : Nat} {D : Dk} {x : Ix} (h : PwAt w W O d q p D sB x) (hb : W.heap[v]? = some (.cells #[pt q, .pointer none] 174)) : VN (some ⟨v, 0, none⟩) W 1 :=
 vn_of hb (scom h) (fun W' t => (xlen_nil W').mono fun e w' ⟨a, b⟩ => ⟨a, b ▸ Turned.refl _ _⟩) (by decide)
structure VC (v : Nat) (W : World) (path : ByteArray) : Prop where
 h45 : ∀ W', Turned (fun _ => False) W W' → Calls Tryz.prog 45 #[pt v, .int .i64 0] W' fun e w' => e = .returned (.int .i64 1024) ∧ Turned (fun _ => False) W w'
 h46 : ∀ W', Turned (fun _ => False) W W' → Calls Tryz.prog 46 #[pt v, .int .i64 0] W' fun e w' => (∃ a c, e = .returned (.slice a 1 c)) ∧ Turned (fun _ => False) W w'
 h47 : ∀ W', Turned (fun _ => False) W W' → Calls Tryz.prog 47 #[pt v, .int .i64 0] W' fun e w' => (∃ a c, e = .returned (.slice a 0 c)) ∧ Turned (fun _ => False) W w'
 h48 : ∀ W', Turned (fun _ => False) W W' → Calls Tryz.prog 48 #[pt v, .int .i64 0, .string path] W' fun e w' => e = .returned (.bool true) ∧ Turned (fun _ => False) W w'
theorem vc_C {w W : World} {O : Nat → Prop} {d q p v : Nat} {D : Dk} {x : Ix} (h : PwAt w W O d q p D sB x) (hb : W.heap[v]? = some (.cells #[pt q, .pointer none] 174)) (path : ByteArray) : VC v W path := by
 have V := vn_C h hb
 have B : ∀ {W'}, Turned (fun _ => False) W W' → Blk W' v #[pt q, .pointer none] 174 := fun t => boxed hb t id
 have R : ∀ {W'}, Turned (fun _ => False) W W' → Calls Tryz.prog 103 #[pt v, .int .i64 0] W' (VrPost W' [] 0 1024) := fun t =>
  vrow_st (c := 1) (k := 0) (s := sB) (B t) (fun W2 t2 => V.h43 W2 (t.trans t2 fun _ _ z => z)) (fun W2 t2 => V.h44 W2 (t.trans t2 fun _ _ z => z)) (by decide) (by decide) (by decide) fun W2 t2 => by
   obtain ⟨S, rs, rx, h, ho⟩ := (h.still t).still t2
   obtain ⟨tv, cv, h1⟩ := h.st
   exact scommit_any h1 0 (by decide) (by decide)
 refine ⟨fun W' t => ?_, fun W' t => ?_, fun W' t => ?_, fun W' t => V.h48 W' t⟩
 ·exact (vgen_in (R t)).mono fun e w' ⟨a, b⟩ => ⟨a, t.trans b fun _ _ z => z⟩
 ·refine (vcontent_in (s := sB) (B t) (R t) fun W2 t2 => ?_).mono fun e w' ⟨a, c, h1, h2, h3⟩ => ⟨⟨a, c, h1⟩, t.trans h3 fun _ _ z => z⟩
  obtain ⟨S, rs, rx, h, ho⟩ := (h.still t).still t2
  obtain ⟨tv, cv, h1⟩ := h.st
  exact stree_any h1 0 (by decide) (by decide)
 ·exact (vparents_in (R t)).mono fun e w' ⟨a, c, h1, h2, h3⟩ => ⟨⟨a, c, h1⟩, t.trans h3 fun _ _ z => z⟩
def VnRel (W : World) (g : Nat) (iv : Value) (wr : World) : Prop := ∃ j : Nat, j + g = 4 ∧ iv = .int .i64 (j : Nat) ∧ Turned (fun _ => False) W wr
structure VnAt (w W : World) (sb v1 v2 v3 : Nat) (path : ByteArray) : Prop where
 blk : W.heap[sb]? = some (.cells #[.pointer none, pt v1, pt v2, pt v3] 90)
 a : VN (some ⟨v1, 0, none⟩) W 0
 b : VN (some ⟨v2, 0, none⟩) W 0
 c : VN (some ⟨v3, 0, none⟩) W 1
 one : VC v3 W path
 tw : Turned (fun _ => False) w W
set_option maxHeartbeats 8000000 in
theorem viewnone_any (n : Int) (path : ByteArray) (w : World) (tab : ∀ W, Turned (fun _ => False) w W → Ch.Tab W ∧ Ch.Errs W) : Calls Tryz.prog 6 #[.int .i64 n, .string path] w fun e w' => e = .returned (.bool true) ∧ Turned (fun _ => False) w w' := by
 have HS : Hid _ := hidS (sees_any w tab)
 have HB : Hid (∀ W, Calls Tryz.prog 40 #[] W (BgPost W)) := begun18_any
 have TB : Hid (∀ W, Turned (fun _ => False) w W → ∀ W2, Turned (fun _ => False) W W2 → Ch.Tab W2 ∧ Ch.Errs W2) := fun W t W2 t2 => tab W2 (t.trans t2 fun _ _ z => z)
 have HT : Hid (∀ w0 W0 W K d q p, Sc w0 W0 W K d q p (dk1 16777216 emp) noSt noIx → Calls Tryz.prog 21 #[pt q, .slice (some ⟨W.heap.size, 0, none⟩) 1 1] (W.alloc (.cells #[.string ⟨#[97]⟩, .int .u32 1] 96)) fun e w' => e = .returned (.tuple #[.int .i64 0, .int .i64 0]) ∧ Sc w0 W0 w' K d q p (dk1 16777216 L1) sA noIx) := fun w0 W0 W K d q p h => sc_tree (by decide) h
 have HC0 : Hid (∀ w0 W0 W K d q p, Sc w0 W0 W K d q p (dk1 16777216 L1) sA noIx → Calls Tryz.prog 22 #[pt q, .agg #[.slice none 0 0, .int .i64 0]] W fun e w' => e = .returned (.tuple #[.int .i64 0, .int .i64 0]) ∧ Sc w0 W0 w' K d q p (dk1 16777216 L2) sB noIx) := fun w0 W0 W K d q p h => sc_c0 (by decide) h
 have HU : Hid (∀ W, Calls Tryz.prog 41 #[] W fun e w' => e = .returned (.agg #[.int .i64 3, .int .i64 10, .int .i64 9, .int .u32 0]) ∧ Turned (fun _ => False) W w') := fun W => usual41_any W
 have HUP : Hid (∀ w0 W0 W K d q p, Turned (fun _ => False) w w0 → Sc w0 W0 W K d q p (dk1 16777216 L2) sB noIx → Calls Tryz.prog 18 #[pt p, .iface 34 (pt q), .agg #[.int .i64 3, .int .i64 10, .int .i64 9, .int .u32 0]] W fun e w' => e = .returned (.int .i64 0) ∧ ∃ T C sm, Sc w0 W0 w' K d q p (dk3 16777216 L2 T C) sB (ix1 1 sm (newG sB usualG 0 []))) := fun w0 W0 W K d q p t h =>
  (sc_update (fun W2 t2 => tab W2 (t.trans t2 fun _ _ z => z)) h (by decide) (by decide) (by rw [L2_size]; decide)).mono fun e w' ⟨a, T, C, sm, h1, h2, h3, h4, h5, h6, h7, h8⟩ => ⟨a, T, C, sm, h8⟩
 have RB : Hid (∀ w0 W0 W r d q p v a b c D s x, Sc w0 W0 W (fun b => b = r) d q p D s x → W0.heap[r]? = some (.cells #[pt d, pt q, pt p, pt v, pt a, pt b, pt c] 94) → W.cell? ⟨r, 1, none⟩ = some (pt q) ∧ W.cell? ⟨r, 2, none⟩ = some (pt p) ∧ r < W.heap.size) := fun w0 W0 W r d q p v a b c D s x h hb => by
  have := h.blk hb rfl
  exact ⟨cell_of this 1 _ rfl, cell_of this 2 _ rfl, lt_of_block this⟩
 have VNW : Hid (∀ so xo W, Calls Tryz.prog 42 #[.pointer so, .pointer xo] W fun e w' => ∃ v, e = .returned (pt v) ∧ W.heap.size ≤ v ∧ w'.heap[v]? = some (.cells #[.pointer so, .pointer xo] 174) ∧ Turned (fun _ => False) W w') := vnew_new
 clear tab
 go_enter Tryz.func6, Tryz.ntmps6
 go_wp2_with (first
  | (go_at_call 39; (with_reducible refine HS.out.mono ?_); rintro e w1 ⟨rfl, y1⟩; replace y1 : Hid _ := hidS y1)
  | (go_at_call 40; (with_reducible refine (HB.out w1).mono ?_); rintro e w2 ⟨r, d, q, p, v, a, b, c, rfl, hb, y2⟩; obtain ⟨k1, k2, k3⟩ := RB.out _ _ _ _ _ _ _ _ _ _ _ _ _ _ y2 hb; have BK : Hid _ := hidS hb; replace y2 : Hid _ := hidS y2; clear hb)
  | (go_at_call 21; (with_reducible refine (HT.out _ _ _ _ d q p y2.out).mono ?_); rintro e w3 ⟨rfl, y3⟩; obtain ⟨k4, k5, k6⟩ := RB.out _ _ _ _ _ _ _ _ _ _ _ _ _ _ y3 BK.out; replace y3 : Hid _ := hidS y3)
  | (go_at_call 22; (with_reducible refine (HC0.out _ _ _ _ d q p y3.out).mono ?_); rintro e w4 ⟨rfl, y4⟩; obtain ⟨k7, k8, k9⟩ := RB.out _ _ _ _ _ _ _ _ _ _ _ _ _ _ y4 BK.out; replace y4 : Hid _ := hidS y4))
 clear k1 k2 k3 k4 k5 k6
 have K4 : Hid (∀ W D s x, Sc w1 w2 W (fun b => b = r) d q p D s x → W.cell? ⟨r, 1, none⟩ = some (pt q) ∧ W.cell? ⟨r, 2, none⟩ = some (pt p)) := fun W D s x h => ⟨(RB.out _ _ _ _ _ _ _ _ _ _ _ _ _ _ h BK.out).1, (RB.out _ _ _ _ _ _ _ _ _ _ _ _ _ _ h BK.out).2.1⟩
 have Y4 : Hid (Sc w1 w2 w4.drew (fun b => b = r) d q p (dk1 16777216 L2) sB noIx) := hidS (y4.out.still (Turned.drew _ _))
 go_region_held3 (fun W => W.cell? ⟨r, 1, none⟩ = some (pt q) ∧ W.cell? ⟨r, 2, none⟩ = some (pt p))
  (first | (exact K4.out _ _ _ _ Y4.out) | (exact K4.out _ _ _ _ y5.out) | (exact K4.out _ _ _ _ y6) | go_keep)
  (first
   | (go_at_call 41; (with_reducible refine (HU.out _).mono ?_); rintro e w5 ⟨rfl, t5⟩; have y5 : Hid _ := hidS (Y4.out.still t5); clear t5)
   | (go_at_call 18; (with_reducible refine (HUP.out _ _ _ _ d q p y1.out y5.out).mono ?_); rintro e w6 ⟨rfl, T, C, sm, y6⟩))
 go_wp2
 have k6 := K4.out _ _ _ _ y6
 obtain ⟨k61, k62⟩ := k6
 have KS : Hid (∀ W, Turned (fun _ => False) w6.drew W → W.cell? ⟨r, 1, none⟩ = some (pt q) ∧ W.cell? ⟨r, 2, none⟩ = some (pt p)) := fun W t => K4.out _ _ _ _ (y6.still ((Turned.drew _ _).trans t fun _ _ z => z))
 have FIN : Hid (∀ wA wB wC v1 v2 v3, Turned (fun _ => False) w6.drew wA → wA.heap[v1]? = some (.cells #[.pointer none, pt p] 174) → Turned (fun _ => False) wA wB → wB.heap[v2]? = some (.cells #[.pointer none, .pointer none] 174) → Turned (fun _ => False) wB wC → wC.heap[v3]? = some (.cells #[pt q, .pointer none] 174) → VnAt w (wC.alloc (.cells #[.pointer none, pt v1, pt v2, pt v3] 90)) wC.heap.size v1 v2 v3 path) := fun wA wB wC v1 v2 v3 t1 b1 t2 b2 t3 b3 => by
  obtain ⟨tA, xA⟩ := one_box (w := wC) (.cells #[.pointer none, pt v1, pt v2, pt v3] 90)
  obtain ⟨O, h1, -, -, -⟩ := y6
  have t6 := ((Turned.drew (fun _ => False) w6).trans t1 fun _ _ z => z).trans ((t2.trans t3 fun _ _ z => z).trans tA fun _ _ z => z) fun _ _ z => z
  have hP := h1.still t6
  exact ⟨xA, vn_A hP (by simp [ix1, Ix.len, Ch.totLn]) (boxed b1 ((t2.trans t3 fun _ _ z => z).trans tA fun _ _ z => z) id), vn_B (boxed b2 (t3.trans tA fun _ _ z => z) id), vn_C hP (boxed b3 tA id), vc_C hP (boxed b3 tA id) path, (y1.out.trans h1.new_le fun _ _ z => z).trans t6 fun _ _ z => z⟩
 have Q0 : Hid (Turned (fun _ => False) w6.drew w6.drew) := hidS (Turned.refl _ _)
 clear y6
 go_region_held3 (fun W => W.cell? ⟨r, 1, none⟩ = some (pt q) ∧ W.cell? ⟨r, 2, none⟩ = some (pt p))
  (first | (exact KS.out _ Q0.out) | (exact KS.out _ (Q0.out.new _)) | go_keep)
  (first
   | (go_at_call 42; (with_reducible refine (VNW.out none (some ⟨p, 0, none⟩) _).mono ?_); rintro e wA ⟨v1, rfl, -, b1, t1⟩; have YA : Hid _ := hidS (And.intro b1 (Q0.out.trans t1 fun _ _ z => z)); clear Q0 b1 t1; have Q0 : Hid _ := hidS YA.out.2)
   | (go_at_call 42; (with_reducible refine (VNW.out none none _).mono ?_); rintro e wB ⟨v2, rfl, -, b2, t2⟩; have YB : Hid _ := hidS (And.intro b2 t2); have Q1 := Q0.out.trans t2 fun _ _ z => z; clear Q0 b2 t2; have Q0 : Hid _ := hidS Q1; clear Q1)
   | (go_at_call 42; (with_reducible refine (VNW.out (some ⟨q, 0, none⟩) none _).mono ?_); rintro e wC ⟨v3, rfl, -, b3, t3⟩; have YC : Hid _ := hidS (And.intro b3 t3); have Q1 := Q0.out.trans t3 fun _ _ z => z; clear Q0 b3 t3; have Q0 : Hid _ := hidS Q1; clear Q1))
 have AT : Hid (VnAt w (wC.alloc (.cells #[.pointer none, pt v1, pt v2, pt v3] 90)) wC.heap.size v1 v2 v3 path) := hidS (FIN.out wA wB wC v1 v2 v3 YA.out.2 YA.out.1 YB.out.2 YB.out.1 YC.out.2 YC.out.1)
 clear FIN YA YB YC Q0 KS K4 Y4 BK RB HUP HU HC0 HT TB HB HS
 generalize wC.alloc (.cells #[.pointer none, pt v1, pt v2, pt v3] 90) = W at *
 generalize wC.heap.size = sb at *
 -- the loop
 go_wp2
 have B0 : Hid (VnRel W 4 (.int .i64 0) W) := hidS ⟨0, rfl, rfl, Turned.refl _ _⟩
 have CELL : Hid (∀ wr, Turned (fun _ => False) W wr → wr.cell? ⟨sb, 0, none⟩ = some (.pointer none) ∧ wr.cell? ⟨sb, 1, none⟩ = some (pt v1) ∧ wr.cell? ⟨sb, 2, none⟩ = some (pt v2) ∧ wr.cell? ⟨sb, 3, none⟩ = some (pt v3) ∧ sb < wr.heap.size) := hidS fun wr t => by
  have h := boxed AT.out.blk t id
  exact ⟨cell_of h 0 _ rfl, cell_of h 1 _ rfl, cell_of h 2 _ rfl, cell_of h 3 _ rfl, lt_of_block h⟩
 by_cases hn0 : n = 0
 ·have e0 : (n == 0) = true := by simp [hn0]
  subst hn0
  have HN0 : Hid ((0 : Int) < 0 ∨ (0 : Int) ≤ 0) := hidS (by omega)
  go_loopg [53] 4 (fun g iv wr => VnRel W g iv wr)
  case atStart => exact B0.out
  case round =>
   clear B0
   obtain ⟨j, hjg, rfl, ht⟩ := hrel
   obtain ⟨x0, x1, x2, x3, xl⟩ := CELL.out _ ht
   have Q0 : Hid _ := hidS ht
   clear ht
   have hj : j = 0 ∨ j = 1 ∨ j = 2 ∨ j = 3 ∨ j = 4 := by omega
   rcases hj with rfl | rfl | rfl | rfl | rfl
   ·obtain rfl : gk = 4 := by omega
    clear hjg
    have HV : Hid _ := hidS (vn_nil W)
    go_wp2_with (first
     | (go_at_call 43; (with_reducible refine (HV.out.h43 _ Q0.out).mono ?_); rintro e wx ⟨rfl, rfl⟩)
     | (go_at_call 44; (with_reducible refine (HV.out.h44 _ Q0.out).mono ?_); rintro e wx ⟨rfl, qx⟩; replace qx := Q0.out.trans qx fun _ _ z => z; clear Q0; have Q0 : Hid _ := hidS qx; clear qx))
    go_roundg (3)
    case measure => omega
    case rel => exact ⟨1, by omega, by first | rfl | (simp [wrap64]), Q0.out⟩
   ·obtain rfl : gk = 3 := by omega
    clear hjg
    have HV : Hid _ := hidS AT.out.a
    have HN : Hid _ := hidS HN0.out
    go_wp2_with (first
     | (go_at_call 43; (with_reducible refine (HV.out.h43 _ Q0.out).mono ?_); rintro e wx ⟨rfl, rfl⟩)
     | (go_at_call 44; (with_reducible refine (HV.out.h44 _ Q0.out).mono ?_); rintro e wx ⟨rfl, qx⟩; replace qx := Q0.out.trans qx fun _ _ z => z; clear Q0; have Q0 : Hid _ := hidS qx; clear qx)
     | (go_at_call 45; (with_reducible refine (HV.out.h45 HN.out _ Q0.out).mono ?_); rintro e wx ⟨rfl, qx⟩; clear Q0; have Q0 : Hid _ := hidS qx; clear qx)
     | (go_at_call 46; (with_reducible refine (HV.out.h46 HN.out _ Q0.out).mono ?_); rintro e wx ⟨rfl, qx⟩; clear Q0; have Q0 : Hid _ := hidS qx; clear qx)
     | (go_at_call 47; (with_reducible refine (HV.out.h47 HN.out _ Q0.out).mono ?_); rintro e wx ⟨rfl, qx⟩; clear Q0; have Q0 : Hid _ := hidS qx; clear qx)
     | (go_at_call 48; (with_reducible refine (HV.out.h48 _ Q0.out).mono ?_); rintro e wx ⟨rfl, qx⟩; clear Q0; have Q0 : Hid _ := hidS qx; clear qx))
    go_roundg (2)
    case measure => omega
    case rel => exact ⟨2, by omega, by first | rfl | (simp [wrap64]), Q0.out⟩
   ·obtain rfl : gk = 2 := by omega
    clear hjg
    have HV : Hid _ := hidS AT.out.b
    have HN : Hid _ := hidS HN0.out
    go_wp2_with (first
     | (go_at_call 43; (with_reducible refine (HV.out.h43 _ Q0.out).mono ?_); rintro e wx ⟨rfl, rfl⟩)
     | (go_at_call 44; (with_reducible refine (HV.out.h44 _ Q0.out).mono ?_); rintro e wx ⟨rfl, qx⟩; replace qx := Q0.out.trans qx fun _ _ z => z; clear Q0; have Q0 : Hid _ := hidS qx; clear qx)
     | (go_at_call 45; (with_reducible refine (HV.out.h45 HN.out _ Q0.out).mono ?_); rintro e wx ⟨rfl, qx⟩; clear Q0; have Q0 : Hid _ := hidS qx; clear qx)
     | (go_at_call 46; (with_reducible refine (HV.out.h46 HN.out _ Q0.out).mono ?_); rintro e wx ⟨rfl, qx⟩; clear Q0; have Q0 : Hid _ := hidS qx; clear qx)
     | (go_at_call 47; (with_reducible refine (HV.out.h47 HN.out _ Q0.out).mono ?_); rintro e wx ⟨rfl, qx⟩; clear Q0; have Q0 : Hid _ := hidS qx; clear qx)
     | (go_at_call 48; (with_reducible refine (HV.out.h48 _ Q0.out).mono ?_); rintro e wx ⟨rfl, qx⟩; clear Q0; have Q0 : Hid _ := hidS qx; clear qx))
    go_roundg (1)
    case measure => omega
    case rel => exact ⟨3, by omega, by first | rfl | (simp [wrap64]), Q0.out⟩
   ·obtain rfl : gk = 1 := by omega
    clear hjg
    have HV : Hid _ := hidS AT.out.c
    have HO : Hid _ := hidS AT.out.one
    go_wp2_with (first
     | (go_at_call 43; (with_reducible refine (HV.out.h43 _ Q0.out).mono ?_); rintro e wx ⟨rfl, rfl⟩)
     | (go_at_call 44; (with_reducible refine (HV.out.h44 _ Q0.out).mono ?_); rintro e wx ⟨rfl, qx⟩; replace qx := Q0.out.trans qx fun _ _ z => z; clear Q0; have Q0 : Hid _ := hidS qx; clear qx)
     | (go_at_call 45; (with_reducible refine (HO.out.h45 _ Q0.out).mono ?_); rintro e wx ⟨rfl, qx⟩; clear Q0; have Q0 : Hid _ := hidS qx; clear qx)
     | (go_at_call 46; (with_reducible refine (HO.out.h46 _ Q0.out).mono ?_); rintro e wx ⟨⟨a9, c9, rfl⟩, qx⟩; clear Q0; have Q0 : Hid _ := hidS qx; clear qx)
     | (go_at_call 47; (with_reducible refine (HO.out.h47 _ Q0.out).mono ?_); rintro e wx ⟨⟨a9, c9, rfl⟩, qx⟩; clear Q0; have Q0 : Hid _ := hidS qx; clear qx)
     | (go_at_call 48; (with_reducible refine (HO.out.h48 _ Q0.out).mono ?_); rintro e wx ⟨rfl, qx⟩; clear Q0; have Q0 : Hid _ := hidS qx; clear qx))
    go_roundg (0)
    case measure => omega
    case rel => exact ⟨4, by omega, by first | rfl | (simp [wrap64]), Q0.out⟩
   ·have HV : Hid _ := hidS (vn_nil W)
    have HN : Hid _ := hidS HN0.out
    clear hjg
    go_wp2_with (first
     | (go_at_call 43; (with_reducible refine (HV.out.h43 _ Q0.out).mono ?_); rintro e wx ⟨rfl, rfl⟩)
     | (go_at_call 44; (with_reducible refine (HV.out.h44 _ Q0.out).mono ?_); rintro e wx ⟨rfl, qx⟩; replace qx := Q0.out.trans qx fun _ _ z => z; clear Q0; have Q0 : Hid _ := hidS qx; clear qx)
     | (go_at_call 45; (with_reducible refine (HV.out.h45 HN.out _ Q0.out).mono ?_); rintro e wx ⟨rfl, qx⟩; clear Q0; have Q0 : Hid _ := hidS qx; clear qx)
     | (go_at_call 46; (with_reducible refine (HV.out.h46 HN.out _ Q0.out).mono ?_); rintro e wx ⟨rfl, qx⟩; clear Q0; have Q0 : Hid _ := hidS qx; clear qx)
     | (go_at_call 47; (with_reducible refine (HV.out.h47 HN.out _ Q0.out).mono ?_); rintro e wx ⟨rfl, qx⟩; clear Q0; have Q0 : Hid _ := hidS qx; clear qx)
     | (go_at_call 48; (with_reducible refine (HV.out.h48 _ Q0.out).mono ?_); rintro e wx ⟨rfl, qx⟩; clear Q0; have Q0 : Hid _ := hidS qx; clear qx))
    go_ret
    exact ⟨rfl, AT.out.tw.trans Q0.out fun _ _ z => z⟩
 ·have e0 : (n == 0) = false := by simp [hn0]
  have HN1 : Hid (n < 0 ∨ 1 ≤ n) := hidS (by omega)
  clear hn0
  have HN0 : Hid (n < 0 ∨ (0 : Int) ≤ n) := hidS (by omega)
  go_loopg [53] 4 (fun g iv wr => VnRel W g iv wr)
  case atStart => exact B0.out
  case round =>
   clear B0
   obtain ⟨j, hjg, rfl, ht⟩ := hrel
   obtain ⟨x0, x1, x2, x3, xl⟩ := CELL.out _ ht
   have Q0 : Hid _ := hidS ht
   clear ht
   have hj : j = 0 ∨ j = 1 ∨ j = 2 ∨ j = 3 ∨ j = 4 := by omega
   rcases hj with rfl | rfl | rfl | rfl | rfl
   ·obtain rfl : gk = 4 := by omega
    clear hjg
    have HV : Hid _ := hidS (vn_nil W)
    go_wp2_with (first
     | (go_at_call 43; (with_reducible refine (HV.out.h43 _ Q0.out).mono ?_); rintro e wx ⟨rfl, rfl⟩)
     | (go_at_call 44; (with_reducible refine (HV.out.h44 _ Q0.out).mono ?_); rintro e wx ⟨rfl, qx⟩; replace qx := Q0.out.trans qx fun _ _ z => z; clear Q0; have Q0 : Hid _ := hidS qx; clear qx))
    go_roundg (3)
    case measure => omega
    case rel => exact ⟨1, by omega, by first | rfl | (simp [wrap64]), Q0.out⟩
   ·obtain rfl : gk = 3 := by omega
    clear hjg
    have HV : Hid _ := hidS AT.out.a
    have HN : Hid _ := hidS HN0.out
    go_wp2_with (first
     | (go_at_call 43; (with_reducible refine (HV.out.h43 _ Q0.out).mono ?_); rintro e wx ⟨rfl, rfl⟩)
     | (go_at_call 44; (with_reducible refine (HV.out.h44 _ Q0.out).mono ?_); rintro e wx ⟨rfl, qx⟩; replace qx := Q0.out.trans qx fun _ _ z => z; clear Q0; have Q0 : Hid _ := hidS qx; clear qx)
     | (go_at_call 45; (with_reducible refine (HV.out.h45 HN.out _ Q0.out).mono ?_); rintro e wx ⟨rfl, qx⟩; clear Q0; have Q0 : Hid _ := hidS qx; clear qx)
     | (go_at_call 46; (with_reducible refine (HV.out.h46 HN.out _ Q0.out).mono ?_); rintro e wx ⟨rfl, qx⟩; clear Q0; have Q0 : Hid _ := hidS qx; clear qx)
     | (go_at_call 47; (with_reducible refine (HV.out.h47 HN.out _ Q0.out).mono ?_); rintro e wx ⟨rfl, qx⟩; clear Q0; have Q0 : Hid _ := hidS qx; clear qx)
     | (go_at_call 48; (with_reducible refine (HV.out.h48 _ Q0.out).mono ?_); rintro e wx ⟨rfl, qx⟩; clear Q0; have Q0 : Hid _ := hidS qx; clear qx))
    go_roundg (2)
    case measure => omega
    case rel => exact ⟨2, by omega, by first | rfl | (simp [wrap64]), Q0.out⟩
   ·obtain rfl : gk = 2 := by omega
    clear hjg
    have HV : Hid _ := hidS AT.out.b
    have HN : Hid _ := hidS HN0.out
    go_wp2_with (first
     | (go_at_call 43; (with_reducible refine (HV.out.h43 _ Q0.out).mono ?_); rintro e wx ⟨rfl, rfl⟩)
     | (go_at_call 44; (with_reducible refine (HV.out.h44 _ Q0.out).mono ?_); rintro e wx ⟨rfl, qx⟩; replace qx := Q0.out.trans qx fun _ _ z => z; clear Q0; have Q0 : Hid _ := hidS qx; clear qx)
     | (go_at_call 45; (with_reducible refine (HV.out.h45 HN.out _ Q0.out).mono ?_); rintro e wx ⟨rfl, qx⟩; clear Q0; have Q0 : Hid _ := hidS qx; clear qx)
     | (go_at_call 46; (with_reducible refine (HV.out.h46 HN.out _ Q0.out).mono ?_); rintro e wx ⟨rfl, qx⟩; clear Q0; have Q0 : Hid _ := hidS qx; clear qx)
     | (go_at_call 47; (with_reducible refine (HV.out.h47 HN.out _ Q0.out).mono ?_); rintro e wx ⟨rfl, qx⟩; clear Q0; have Q0 : Hid _ := hidS qx; clear qx)
     | (go_at_call 48; (with_reducible refine (HV.out.h48 _ Q0.out).mono ?_); rintro e wx ⟨rfl, qx⟩; clear Q0; have Q0 : Hid _ := hidS qx; clear qx))
    go_roundg (1)
    case measure => omega
    case rel => exact ⟨3, by omega, by first | rfl | (simp [wrap64]), Q0.out⟩
   ·obtain rfl : gk = 1 := by omega
    clear hjg
    have HV : Hid _ := hidS AT.out.c
    have HN : Hid _ := hidS HN1.out
    go_wp2_with (first
     | (go_at_call 43; (with_reducible refine (HV.out.h43 _ Q0.out).mono ?_); rintro e wx ⟨rfl, rfl⟩)
     | (go_at_call 44; (with_reducible refine (HV.out.h44 _ Q0.out).mono ?_); rintro e wx ⟨rfl, qx⟩; replace qx := Q0.out.trans qx fun _ _ z => z; clear Q0; have Q0 : Hid _ := hidS qx; clear qx)
     | (go_at_call 45; (with_reducible refine (HV.out.h45 HN.out _ Q0.out).mono ?_); rintro e wx ⟨rfl, qx⟩; clear Q0; have Q0 : Hid _ := hidS qx; clear qx)
     | (go_at_call 46; (with_reducible refine (HV.out.h46 HN.out _ Q0.out).mono ?_); rintro e wx ⟨rfl, qx⟩; clear Q0; have Q0 : Hid _ := hidS qx; clear qx)
     | (go_at_call 47; (with_reducible refine (HV.out.h47 HN.out _ Q0.out).mono ?_); rintro e wx ⟨rfl, qx⟩; clear Q0; have Q0 : Hid _ := hidS qx; clear qx)
     | (go_at_call 48; (with_reducible refine (HV.out.h48 _ Q0.out).mono ?_); rintro e wx ⟨rfl, qx⟩; clear Q0; have Q0 : Hid _ := hidS qx; clear qx))
    go_roundg (0)
    case measure => omega
    case rel => exact ⟨4, by omega, by first | rfl | (simp [wrap64]), Q0.out⟩
   ·have HV : Hid _ := hidS (vn_nil W)
    have HN : Hid _ := hidS HN0.out
    clear hjg
    go_wp2_with (first
     | (go_at_call 43; (with_reducible refine (HV.out.h43 _ Q0.out).mono ?_); rintro e wx ⟨rfl, rfl⟩)
     | (go_at_call 44; (with_reducible refine (HV.out.h44 _ Q0.out).mono ?_); rintro e wx ⟨rfl, qx⟩; replace qx := Q0.out.trans qx fun _ _ z => z; clear Q0; have Q0 : Hid _ := hidS qx; clear qx)
     | (go_at_call 45; (with_reducible refine (HV.out.h45 HN.out _ Q0.out).mono ?_); rintro e wx ⟨rfl, qx⟩; clear Q0; have Q0 : Hid _ := hidS qx; clear qx)
     | (go_at_call 46; (with_reducible refine (HV.out.h46 HN.out _ Q0.out).mono ?_); rintro e wx ⟨rfl, qx⟩; clear Q0; have Q0 : Hid _ := hidS qx; clear qx)
     | (go_at_call 47; (with_reducible refine (HV.out.h47 HN.out _ Q0.out).mono ?_); rintro e wx ⟨rfl, qx⟩; clear Q0; have Q0 : Hid _ := hidS qx; clear qx)
     | (go_at_call 48; (with_reducible refine (HV.out.h48 _ Q0.out).mono ?_); rintro e wx ⟨rfl, qx⟩; clear Q0; have Q0 : Hid _ := hidS qx; clear qx))
    go_ret
    exact ⟨rfl, AT.out.tw.trans Q0.out fun _ _ z => z⟩
end Go.Proofs.YtofcogekgcgjhaaGreatDoor
