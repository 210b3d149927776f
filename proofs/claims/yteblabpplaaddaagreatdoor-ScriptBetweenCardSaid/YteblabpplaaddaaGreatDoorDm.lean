/- The document's reading: a line: the walk of line, behind its words (printed by gen_dm.py). -/
import Derived.Test.YteblabpplaaddaaGreatDoorDl
import Derived.Test.YteblabpplaaddaaGreatDoorPc
import Derived.Deep.Cut
set_option linter.unusedVariables false
set_option linter.unusedSimpArgs false
namespace Go.Proofs.YteblabpplaaddaaGreatDoor
open Go.RowKit Go.Mine Go.Mine.Sc

def LinePost (w : World) : Option Cmd → Ending → World → Prop
  | some c, e, w' => (∃ cs, e = .returned (.tuple #[.agg cs, .bool true]) ∧ CmdV w' (fun b => w.heap.size ≤ b) c cs) ∧ Turned (fun _ => False) w w'
  | none, e, w' => (∃ k a1 n1 c1 t1 t2 a4 n4 c4 q1 q2 q3 q4 a9 n9 c9 t3, e = .returned (.tuple #[.agg #[.int .i64 k, .slice a1 n1 c1, .string t1, .string t2, .slice a4 n4 c4, .int .i64 q1, .int .i64 q2, .int .i64 q3, .int .i64 q4, .slice a9 n9 c9, .string t3], .bool false])) ∧ Turned (fun _ => False) w w'

set_option maxRecDepth 100000 in
theorem line_ret {R : Ending → World → Prop} {tmps : Array Value} {W : World} {q : Nat} {v y0 y1 y2 y3 y4 y5 y6 y7 y8 y9 y10 : Value} (ht : tmps[2]?.getD undef = pt q) (h3 : tmps[3]?.getD undef = v) (hb : W.heap[q]? = some (.cells #[y0, y1, y2, y3, y4, y5, y6, y7, y8, y9, y10] 40 (0, 0)))
    (hR : R (.returned (.tuple #[.agg #[y0, y1, y2, y3, y4, y5, y6, y7, y8, y9, y10], v])) W) : bodyPost Tryz.prog Tryz.f46 R .ret { tmps := tmps, defers := [] } W := by
  have r0 := cell_of hb 0 _ rfl
  have r1 := cell_of hb 1 _ rfl
  have r2 := cell_of hb 2 _ rfl
  have r3 := cell_of hb 3 _ rfl
  have r4 := cell_of hb 4 _ rfl
  have r5 := cell_of hb 5 _ rfl
  have r6 := cell_of hb 6 _ rfl
  have r7 := cell_of hb 7 _ rfl
  have r8 := cell_of hb 8 _ rfl
  have r9 := cell_of hb 9 _ rfl
  have r10 := cell_of hb 10 _ rfl
  clear hb
  simp only [List.getElem_toArray, List.getElem_cons_zero, List.getElem_cons_succ] at r0 r1 r2 r3 r4 r5 r6 r7 r8 r9 r10
  simp [bodyPost, results, Tryz.results46, go_sem, ht, h3, r0, r1, r2, r3, r4, r5, r6, r7, r8, r9, r10]
  exact hR
theorem sl_at2 {W : World} {S : Nat → Prop} {e : TypeId} {a : Option Addr} {n cap : Nat} {xs : List Value} (h : Sl W S e 1 (.slice a n cap) xs n) (h0 : 0 < n) : ∃ g off, a = some ⟨g, off, none⟩ ∧ S g ∧ g < W.heap.size ∧ ∀ j, j < n → W.cell? ⟨g, off + j, none⟩ = xs[j]? := by
  obtain ⟨g, off, cap', hv, hS, -, -, hc, -, hlt⟩ := h.opens h0
  injection hv with hv
  exact ⟨g, off, hv, hS, hlt, fun j hj => hc j (by omega)⟩
theorem eleven_put (w1 : World) (q : Nat) (T : TypeId) (u0 u1 u2 u3 u4 u5 u6 u7 u8 u9 u10 y0 y1 y2 y3 y4 y5 y6 y7 y8 y9 y10 : Value) (h : w1.heap[q]? = some (.cells #[u0, u1, u2, u3, u4, u5, u6, u7, u8, u9, u10] T (0, 0))) :
    (((((((((((w1.setCell ⟨q, 0, none⟩ y0).setCell ⟨q, 1, none⟩ y1).setCell ⟨q, 2, none⟩ y2).setCell ⟨q, 3, none⟩ y3).setCell ⟨q, 4, none⟩ y4).setCell ⟨q, 5, none⟩ y5).setCell ⟨q, 6, none⟩ y6).setCell ⟨q, 7, none⟩ y7).setCell ⟨q, 8, none⟩ y8).setCell ⟨q, 9, none⟩ y9).setCell ⟨q, 10, none⟩ y10).heap[q]? = some (.cells #[y0, y1, y2, y3, y4, y5, y6, y7, y8, y9, y10] T (0, 0)) ∧ Turned (· = q) w1 (((((((((((w1.setCell ⟨q, 0, none⟩ y0).setCell ⟨q, 1, none⟩ y1).setCell ⟨q, 2, none⟩ y2).setCell ⟨q, 3, none⟩ y3).setCell ⟨q, 4, none⟩ y4).setCell ⟨q, 5, none⟩ y5).setCell ⟨q, 6, none⟩ y6).setCell ⟨q, 7, none⟩ y7).setCell ⟨q, 8, none⟩ y8).setCell ⟨q, 9, none⟩ y9).setCell ⟨q, 10, none⟩ y10) := by
  have t : Turned (· = q) w1 w1 := Turned.refl _ _
  have h0 : (w1.setCell ⟨q, 0, none⟩ y0).heap[q]? = some (.cells #[y0, u1, u2, u3, u4, u5, u6, u7, u8, u9, u10] T (0, 0)) := Go.Mine.heap_setCell_same h _
  have t0 : Turned (· = q) w1 (w1.setCell ⟨q, 0, none⟩ y0) := t.set (p := ⟨q, 0, none⟩) rfl _
  generalize w1.setCell ⟨q, 0, none⟩ y0 = W0 at *
  have h1 : (W0.setCell ⟨q, 1, none⟩ y1).heap[q]? = some (.cells #[y0, y1, u2, u3, u4, u5, u6, u7, u8, u9, u10] T (0, 0)) := Go.Mine.heap_setCell_same h0 _
  have t1 : Turned (· = q) w1 (W0.setCell ⟨q, 1, none⟩ y1) := t0.set (p := ⟨q, 1, none⟩) rfl _
  generalize W0.setCell ⟨q, 1, none⟩ y1 = W1 at *
  have h2 : (W1.setCell ⟨q, 2, none⟩ y2).heap[q]? = some (.cells #[y0, y1, y2, u3, u4, u5, u6, u7, u8, u9, u10] T (0, 0)) := Go.Mine.heap_setCell_same h1 _
  have t2 : Turned (· = q) w1 (W1.setCell ⟨q, 2, none⟩ y2) := t1.set (p := ⟨q, 2, none⟩) rfl _
  generalize W1.setCell ⟨q, 2, none⟩ y2 = W2 at *
  have h3 : (W2.setCell ⟨q, 3, none⟩ y3).heap[q]? = some (.cells #[y0, y1, y2, y3, u4, u5, u6, u7, u8, u9, u10] T (0, 0)) := Go.Mine.heap_setCell_same h2 _
  have t3 : Turned (· = q) w1 (W2.setCell ⟨q, 3, none⟩ y3) := t2.set (p := ⟨q, 3, none⟩) rfl _
  generalize W2.setCell ⟨q, 3, none⟩ y3 = W3 at *
  have h4 : (W3.setCell ⟨q, 4, none⟩ y4).heap[q]? = some (.cells #[y0, y1, y2, y3, y4, u5, u6, u7, u8, u9, u10] T (0, 0)) := Go.Mine.heap_setCell_same h3 _
  have t4 : Turned (· = q) w1 (W3.setCell ⟨q, 4, none⟩ y4) := t3.set (p := ⟨q, 4, none⟩) rfl _
  generalize W3.setCell ⟨q, 4, none⟩ y4 = W4 at *
  have h5 : (W4.setCell ⟨q, 5, none⟩ y5).heap[q]? = some (.cells #[y0, y1, y2, y3, y4, y5, u6, u7, u8, u9, u10] T (0, 0)) := Go.Mine.heap_setCell_same h4 _
  have t5 : Turned (· = q) w1 (W4.setCell ⟨q, 5, none⟩ y5) := t4.set (p := ⟨q, 5, none⟩) rfl _
  generalize W4.setCell ⟨q, 5, none⟩ y5 = W5 at *
  have h6 : (W5.setCell ⟨q, 6, none⟩ y6).heap[q]? = some (.cells #[y0, y1, y2, y3, y4, y5, y6, u7, u8, u9, u10] T (0, 0)) := Go.Mine.heap_setCell_same h5 _
  have t6 : Turned (· = q) w1 (W5.setCell ⟨q, 6, none⟩ y6) := t5.set (p := ⟨q, 6, none⟩) rfl _
  generalize W5.setCell ⟨q, 6, none⟩ y6 = W6 at *
  have h7 : (W6.setCell ⟨q, 7, none⟩ y7).heap[q]? = some (.cells #[y0, y1, y2, y3, y4, y5, y6, y7, u8, u9, u10] T (0, 0)) := Go.Mine.heap_setCell_same h6 _
  have t7 : Turned (· = q) w1 (W6.setCell ⟨q, 7, none⟩ y7) := t6.set (p := ⟨q, 7, none⟩) rfl _
  generalize W6.setCell ⟨q, 7, none⟩ y7 = W7 at *
  have h8 : (W7.setCell ⟨q, 8, none⟩ y8).heap[q]? = some (.cells #[y0, y1, y2, y3, y4, y5, y6, y7, y8, u9, u10] T (0, 0)) := Go.Mine.heap_setCell_same h7 _
  have t8 : Turned (· = q) w1 (W7.setCell ⟨q, 8, none⟩ y8) := t7.set (p := ⟨q, 8, none⟩) rfl _
  generalize W7.setCell ⟨q, 8, none⟩ y8 = W8 at *
  have h9 : (W8.setCell ⟨q, 9, none⟩ y9).heap[q]? = some (.cells #[y0, y1, y2, y3, y4, y5, y6, y7, y8, y9, u10] T (0, 0)) := Go.Mine.heap_setCell_same h8 _
  have t9 : Turned (· = q) w1 (W8.setCell ⟨q, 9, none⟩ y9) := t8.set (p := ⟨q, 9, none⟩) rfl _
  generalize W8.setCell ⟨q, 9, none⟩ y9 = W9 at *
  have h10 : (W9.setCell ⟨q, 10, none⟩ y10).heap[q]? = some (.cells #[y0, y1, y2, y3, y4, y5, y6, y7, y8, y9, y10] T (0, 0)) := Go.Mine.heap_setCell_same h9 _
  have t10 : Turned (· = q) w1 (W9.setCell ⟨q, 10, none⟩ y10) := t9.set (p := ⟨q, 10, none⟩) rfl _
  generalize W9.setCell ⟨q, 10, none⟩ y10 = W10 at *
  exact ⟨h10, t10⟩

/-- the cells of a block of eleven, and that they may be written -/
structure Ele (W : World) (q : Nat) (y0 y1 y2 y3 y4 y5 y6 y7 y8 y9 y10 : Value) : Prop where
  c0 : W.cell? ⟨q, 0, none⟩ = some y0
  c1 : W.cell? ⟨q, 1, none⟩ = some y1
  c2 : W.cell? ⟨q, 2, none⟩ = some y2
  c3 : W.cell? ⟨q, 3, none⟩ = some y3
  c4 : W.cell? ⟨q, 4, none⟩ = some y4
  c5 : W.cell? ⟨q, 5, none⟩ = some y5
  c6 : W.cell? ⟨q, 6, none⟩ = some y6
  c7 : W.cell? ⟨q, 7, none⟩ = some y7
  c8 : W.cell? ⟨q, 8, none⟩ = some y8
  c9 : W.cell? ⟨q, 9, none⟩ = some y9
  c10 : W.cell? ⟨q, 10, none⟩ = some y10
  f0 : W.frozen? ⟨q, 0, none⟩ = false
  f1 : W.frozen? ⟨q, 1, none⟩ = false
  f2 : W.frozen? ⟨q, 2, none⟩ = false
  f3 : W.frozen? ⟨q, 3, none⟩ = false
  f4 : W.frozen? ⟨q, 4, none⟩ = false
  f5 : W.frozen? ⟨q, 5, none⟩ = false
  f6 : W.frozen? ⟨q, 6, none⟩ = false
  f7 : W.frozen? ⟨q, 7, none⟩ = false
  f8 : W.frozen? ⟨q, 8, none⟩ = false
  f9 : W.frozen? ⟨q, 9, none⟩ = false
  f10 : W.frozen? ⟨q, 10, none⟩ = false
  lt : q < W.heap.size
theorem Ele.of {W : World} {q : Nat} {T : TypeId} {y0 y1 y2 y3 y4 y5 y6 y7 y8 y9 y10 : Value} (h : W.heap[q]? = some (.cells #[y0, y1, y2, y3, y4, y5, y6, y7, y8, y9, y10] T (0, 0))) : Ele W q y0 y1 y2 y3 y4 y5 y6 y7 y8 y9 y10 :=
  ⟨cell_of h 0 _ rfl, cell_of h 1 _ rfl, cell_of h 2 _ rfl, cell_of h 3 _ rfl, cell_of h 4 _ rfl, cell_of h 5 _ rfl, cell_of h 6 _ rfl, cell_of h 7 _ rfl, cell_of h 8 _ rfl, cell_of h 9 _ rfl, cell_of h 10 _ rfl, free_of h 0, free_of h 1, free_of h 2, free_of h 3, free_of h 4, free_of h 5, free_of h 6, free_of h 7, free_of h 8, free_of h 9, free_of h 10, lt_of_block h⟩
set_option maxRecDepth 100000 in
set_option maxHeartbeats 4000000 in
theorem line_k0 (w : World) (b0 : Nat) (hb0 : b0 = w.heap.size) (W : World) (hB : W.heap[b0]? = some (.cells zero11 40 (0, 0))) (hT : Turned (fun _ => False) w W) (k : Int) (a b : Option Addr) (ca cb : Nat) (ns : List Int) (xs : List B) (ok : Bool) (z0 x1 x3 x4 x9 x10 x11 x12 x13 x14 x15 x16 x17 x18 x19 x20 x21 x22 x23 x24 x25 x26 x27 x28 x29 x30 x31 x32 x33 x34 x35 x36 x37 x38 x39 x40 x41 x42 x43 x44 x45 x46 x47 x48 x49 x50 x51 x52 x53 x54 x55 x56 x57 x58 x59 x60 x61 x62 x63 x64 x65 x66 x67 x68 x69 x70 x71 x72 x73 x74 x75 x76 x77 x78 x79 x80 x81 x82 x83 x84 x85 x86 x87 x88 x89 x90 x91 x92 x93 x94 x95 x96 x97 x98 x99 x100 x101 x102 x103 x104 x105 x106 x107 : Value) (hk : k = 0) :
    (seqSnd (seqSnd (seqSnd (seqSnd (seqSnd (Tryz.f46.body.getD .skip)))))).wp Tryz.prog (bodyPost Tryz.prog Tryz.f46 (LinePost w (none))) { tmps := #[z0, x1, pt b0, x3, x4, .int .i64 k, .slice a ns.length ca, .slice b xs.length cb, .bool ok, x9, x10, x11, x12, x13, x14, x15, x16, x17, x18, x19, x20, x21, x22, x23, x24, x25, x26, x27, x28, x29, x30, x31, x32, x33, x34, x35, x36, x37, x38, x39, x40, x41, x42, x43, x44, x45, x46, x47, x48, x49, x50, x51, x52, x53, x54, x55, x56, x57, x58, x59, x60, x61, x62, x63, x64, x65, x66, x67, x68, x69, x70, x71, x72, x73, x74, x75, x76, x77, x78, x79, x80, x81, x82, x83, x84, x85, x86, x87, x88, x89, x90, x91, x92, x93, x94, x95, x96, x97, x98, x99, x100, x101, x102, x103, x104, x105, x106, x107], defers := [] } W := by
  obtain ⟨Q, hQ⟩ : ∃ Q, Q = bodyPost Tryz.prog Tryz.f46 (LinePost w (none)) := ⟨_, rfl⟩
  rw [← hQ]
  have HT : Hid (W.heap[b0]? = some (.cells zero11 40 (0, 0)) ∧ Turned (fun _ => False) w W ∧ b0 = w.heap.size) := ⟨hB, hT, hb0⟩
  subst hk
  dsimp only [Tryz.f46, seqSnd, Option.getD]
  clear hB hT hb0
  have EL := Ele.of HT.out.1
  have k0 := EL.c0; have k1 := EL.c1; have k2 := EL.c2; have k3 := EL.c3; have k4 := EL.c4; have k5 := EL.c5; have k6 := EL.c6; have k7 := EL.c7; have k8 := EL.c8; have k9 := EL.c9; have k10 := EL.c10; have g0 := EL.f0; have g1 := EL.f1; have g2 := EL.f2; have g3 := EL.f3; have g4 := EL.f4; have g5 := EL.f5; have g6 := EL.f6; have g7 := EL.f7; have g8 := EL.f8; have g9 := EL.f9; have g10 := EL.f10; have j0 := EL.lt
  clear EL
  go_wp2
  obtain ⟨z1, z2⟩ := eleven_put W b0 40 (.int .i64 0) (.slice none 0 0) (.string ⟨#[]⟩) (.string ⟨#[]⟩) (.slice none 0 0) (.int .i64 0) (.int .i64 0) (.int .i64 0) (.int .i64 0) (.slice none 0 0) (.string ⟨#[]⟩) (.int .i64 0) (.slice none 0 0) (.string ⟨#[]⟩) (.string ⟨#[]⟩) (.slice none 0 0) (.int .i64 0) (.int .i64 0) (.int .i64 0) (.int .i64 0) (.slice none 0 0) (.string ⟨#[]⟩) HT.out.1
  rw [hQ]
  refine line_ret rfl rfl z1 ?_
  exact ⟨⟨_, _, _, _, _, _, _, _, _, _, _, _, _, _, _, _, _, rfl⟩, HT.out.2.1.comp z2 fun i hi q => q.elim id fun q => by have := HT.out.2.2; omega⟩

set_option maxRecDepth 100000 in
set_option maxHeartbeats 4000000 in
theorem line_no (w : World) (b0 : Nat) (hb0 : b0 = w.heap.size) (W : World) (hB : W.heap[b0]? = some (.cells zero11 40 (0, 0))) (hT : Turned (fun _ => False) w W) (k : Int) (a b : Option Addr) (ca cb : Nat) (ns : List Int) (xs : List B) (ok : Bool) (z0 x1 x3 x4 x9 x10 x11 x12 x13 x14 x15 x16 x17 x18 x19 x20 x21 x22 x23 x24 x25 x26 x27 x28 x29 x30 x31 x32 x33 x34 x35 x36 x37 x38 x39 x40 x41 x42 x43 x44 x45 x46 x47 x48 x49 x50 x51 x52 x53 x54 x55 x56 x57 x58 x59 x60 x61 x62 x63 x64 x65 x66 x67 x68 x69 x70 x71 x72 x73 x74 x75 x76 x77 x78 x79 x80 x81 x82 x83 x84 x85 x86 x87 x88 x89 x90 x91 x92 x93 x94 x95 x96 x97 x98 x99 x100 x101 x102 x103 x104 x105 x106 x107 : Value) (hk : (k == 0) = false) (hok : ok = false) :
    (seqSnd (seqSnd (seqSnd (seqSnd (seqSnd (Tryz.f46.body.getD .skip)))))).wp Tryz.prog (bodyPost Tryz.prog Tryz.f46 (LinePost w (none))) { tmps := #[z0, x1, pt b0, x3, x4, .int .i64 k, .slice a ns.length ca, .slice b xs.length cb, .bool ok, x9, x10, x11, x12, x13, x14, x15, x16, x17, x18, x19, x20, x21, x22, x23, x24, x25, x26, x27, x28, x29, x30, x31, x32, x33, x34, x35, x36, x37, x38, x39, x40, x41, x42, x43, x44, x45, x46, x47, x48, x49, x50, x51, x52, x53, x54, x55, x56, x57, x58, x59, x60, x61, x62, x63, x64, x65, x66, x67, x68, x69, x70, x71, x72, x73, x74, x75, x76, x77, x78, x79, x80, x81, x82, x83, x84, x85, x86, x87, x88, x89, x90, x91, x92, x93, x94, x95, x96, x97, x98, x99, x100, x101, x102, x103, x104, x105, x106, x107], defers := [] } W := by
  obtain ⟨Q, hQ⟩ : ∃ Q, Q = bodyPost Tryz.prog Tryz.f46 (LinePost w (none)) := ⟨_, rfl⟩
  rw [← hQ]
  have HT : Hid (W.heap[b0]? = some (.cells zero11 40 (0, 0)) ∧ Turned (fun _ => False) w W ∧ b0 = w.heap.size) := ⟨hB, hT, hb0⟩
  subst hok
  dsimp only [Tryz.f46, seqSnd, Option.getD]
  clear hB hT hb0
  have EL := Ele.of HT.out.1
  have k0 := EL.c0; have k1 := EL.c1; have k2 := EL.c2; have k3 := EL.c3; have k4 := EL.c4; have k5 := EL.c5; have k6 := EL.c6; have k7 := EL.c7; have k8 := EL.c8; have k9 := EL.c9; have k10 := EL.c10; have g0 := EL.f0; have g1 := EL.f1; have g2 := EL.f2; have g3 := EL.f3; have g4 := EL.f4; have g5 := EL.f5; have g6 := EL.f6; have g7 := EL.f7; have g8 := EL.f8; have g9 := EL.f9; have g10 := EL.f10; have j0 := EL.lt
  clear EL
  go_wp2
  obtain ⟨z1, z2⟩ := eleven_put W b0 40 (.int .i64 0) (.slice none 0 0) (.string ⟨#[]⟩) (.string ⟨#[]⟩) (.slice none 0 0) (.int .i64 0) (.int .i64 0) (.int .i64 0) (.int .i64 0) (.slice none 0 0) (.string ⟨#[]⟩) (.int .i64 0) (.slice none 0 0) (.string ⟨#[]⟩) (.string ⟨#[]⟩) (.slice none 0 0) (.int .i64 0) (.int .i64 0) (.int .i64 0) (.int .i64 0) (.slice none 0 0) (.string ⟨#[]⟩) HT.out.1
  rw [hQ]
  refine line_ret rfl rfl z1 ?_
  exact ⟨⟨_, _, _, _, _, _, _, _, _, _, _, _, _, _, _, _, _, rfl⟩, HT.out.2.1.comp z2 fun i hi q => q.elim id fun q => by have := HT.out.2.2; omega⟩

set_option maxRecDepth 100000 in
set_option maxHeartbeats 4000000 in
theorem line_ask (w : World) (b0 : Nat) (hb0 : b0 = w.heap.size) (W : World) (hB : W.heap[b0]? = some (.cells zero11 40 (0, 0))) (hT : Turned (fun _ => False) w W) (k : Int) (a b : Option Addr) (ca cb : Nat) (ns : List Int) (xs : List B) (ok : Bool) (z0 x1 x3 x4 x9 x10 x11 x12 x13 x14 x15 x16 x17 x18 x19 x20 x21 x22 x23 x24 x25 x26 x27 x28 x29 x30 x31 x32 x33 x34 x35 x36 x37 x38 x39 x40 x41 x42 x43 x44 x45 x46 x47 x48 x49 x50 x51 x52 x53 x54 x55 x56 x57 x58 x59 x60 x61 x62 x63 x64 x65 x66 x67 x68 x69 x70 x71 x72 x73 x74 x75 x76 x77 x78 x79 x80 x81 x82 x83 x84 x85 x86 x87 x88 x89 x90 x91 x92 x93 x94 x95 x96 x97 x98 x99 x100 x101 x102 x103 x104 x105 x106 x107 : Value) (hk : (k == 0) = false) (hok : ok = true) (h100 : decide ((100 : Int) < k) = true) (hw : wrap64 (k - 100) = k - 100) (c : Cmd) (hA : Calls Tryz.prog 76 #[.int .i64 (k - 100), .slice a ns.length ca, .slice b xs.length cb] W (AskedPost W (fun b => w.heap.size < b) c)) :
    (seqSnd (seqSnd (seqSnd (seqSnd (seqSnd (Tryz.f46.body.getD .skip)))))).wp Tryz.prog (bodyPost Tryz.prog Tryz.f46 (LinePost w (some c))) { tmps := #[z0, x1, pt b0, x3, x4, .int .i64 k, .slice a ns.length ca, .slice b xs.length cb, .bool ok, x9, x10, x11, x12, x13, x14, x15, x16, x17, x18, x19, x20, x21, x22, x23, x24, x25, x26, x27, x28, x29, x30, x31, x32, x33, x34, x35, x36, x37, x38, x39, x40, x41, x42, x43, x44, x45, x46, x47, x48, x49, x50, x51, x52, x53, x54, x55, x56, x57, x58, x59, x60, x61, x62, x63, x64, x65, x66, x67, x68, x69, x70, x71, x72, x73, x74, x75, x76, x77, x78, x79, x80, x81, x82, x83, x84, x85, x86, x87, x88, x89, x90, x91, x92, x93, x94, x95, x96, x97, x98, x99, x100, x101, x102, x103, x104, x105, x106, x107], defers := [] } W := by
  obtain ⟨Q, hQ⟩ : ∃ Q, Q = bodyPost Tryz.prog Tryz.f46 (LinePost w (some c)) := ⟨_, rfl⟩
  rw [← hQ]
  have HT : Hid (W.heap[b0]? = some (.cells zero11 40 (0, 0)) ∧ Turned (fun _ => False) w W ∧ b0 = w.heap.size) := ⟨hB, hT, hb0⟩
  subst hok
  have hA : Calls Tryz.prog 76 #[.int .i64 (wrap64 (k - 100)), .slice a ns.length ca, .slice b xs.length cb] W (AskedPost W (fun b => w.heap.size < b) c) := by rw [hw]; exact hA
  clear hw
  dsimp only [Tryz.f46, seqSnd, Option.getD]
  clear hB hT hb0
  go_wp2_with (first
    | (go_at_call 76; (with_reducible refine hA.mono ?_); rintro e w4 ⟨⟨cs, rfl, b1, n1, b4, n4, b9, n9, rfl, s1, s2, s3⟩, ht4⟩
       have D4 : Hid (CmdV w4 (fun b => w.heap.size < b) c #[.int .i64 c.kind, .slice b1 c.nums.length n1, .string (bs c.text), .string (bs c.more), .slice b4 c.tree.length n4, .int .i64 c.ask.kind, .int .i64 c.ask.a, .int .i64 c.ask.b, .int .i64 c.ask.limit, .slice b9 c.ask.ids.length n9, .string (bs c.ask.path)] ∧ w4.heap[b0]? = some (.cells zero11 40 (0, 0)) ∧ Turned (fun _ => False) w w4) := ⟨⟨b1, n1, b4, n4, b9, n9, rfl, s1, s2, s3⟩, (ht4.block _ (lt_of_block HT.out.1) id).trans HT.out.1, HT.out.2.1.trans ht4 fun _ _ q => q⟩
       have EL := Ele.of D4.out.2.1
       have k0 := EL.c0; have k1 := EL.c1; have k2 := EL.c2; have k3 := EL.c3; have k4 := EL.c4; have k5 := EL.c5; have k6 := EL.c6; have k7 := EL.c7; have k8 := EL.c8; have k9 := EL.c9; have k10 := EL.c10; have g0 := EL.f0; have g1 := EL.f1; have g2 := EL.f2; have g3 := EL.f3; have g4 := EL.f4; have g5 := EL.f5; have g6 := EL.f6; have g7 := EL.f7; have g8 := EL.f8; have g9 := EL.f9; have g10 := EL.f10; have j0 := EL.lt
       clear EL s1 s2 s3 ht4 hA))
  obtain ⟨z1, z2⟩ := eleven_put w4 b0 40 (.int .i64 0) (.slice none 0 0) (.string ⟨#[]⟩) (.string ⟨#[]⟩) (.slice none 0 0) (.int .i64 0) (.int .i64 0) (.int .i64 0) (.int .i64 0) (.slice none 0 0) (.string ⟨#[]⟩) (.int .i64 c.kind) (.slice b1 c.nums.length n1) (.string (bs c.text)) (.string (bs c.more)) (.slice b4 c.tree.length n4) (.int .i64 c.ask.kind) (.int .i64 c.ask.a) (.int .i64 c.ask.b) (.int .i64 c.ask.limit) (.slice b9 c.ask.ids.length n9) (.string (bs c.ask.path)) D4.out.2.1
  rw [hQ]
  refine line_ret rfl rfl z1 ?_
  exact ⟨⟨_, rfl, (D4.out.1.turned z2 fun i q z => by have := HT.out.2.2; omega).widen fun i q => Nat.le_of_lt q⟩, D4.out.2.2.comp z2 fun i hi q => q.elim id fun q => by have := HT.out.2.2; omega⟩

set_option maxRecDepth 100000 in
set_option maxHeartbeats 4000000 in
theorem line_plain (w : World) (b0 : Nat) (hb0 : b0 = w.heap.size) (W : World) (hB : W.heap[b0]? = some (.cells zero11 40 (0, 0))) (hT : Turned (fun _ => False) w W) (k : Int) (a b : Option Addr) (ca cb : Nat) (ns : List Int) (xs : List B) (ok : Bool) (z0 x1 x3 x4 x9 x10 x11 x12 x13 x14 x15 x16 x17 x18 x19 x20 x21 x22 x23 x24 x25 x26 x27 x28 x29 x30 x31 x32 x33 x34 x35 x36 x37 x38 x39 x40 x41 x42 x43 x44 x45 x46 x47 x48 x49 x50 x51 x52 x53 x54 x55 x56 x57 x58 x59 x60 x61 x62 x63 x64 x65 x66 x67 x68 x69 x70 x71 x72 x73 x74 x75 x76 x77 x78 x79 x80 x81 x82 x83 x84 x85 x86 x87 x88 x89 x90 x91 x92 x93 x94 x95 x96 x97 x98 x99 x100 x101 x102 x103 x104 x105 x106 x107 : Value) (hk0 : (k == 0) = false) (h100 : decide ((100 : Int) < k) = false) (hk1 : (k == 1) = false) (hk2 : (k == 2) = false) (hk9 : (k == 9) = false) (hk10 : (k == 10) = false) (hk11 : (k == 11) = false) (hok : ok = true) (hN : Sl W (fun b => w.heap.size < b) 3 1 (.slice a ns.length ca) (icells ns) ns.length) :
    (seqSnd (seqSnd (seqSnd (seqSnd (seqSnd (Tryz.f46.body.getD .skip)))))).wp Tryz.prog (bodyPost Tryz.prog Tryz.f46 (LinePost w (some { kind := k, nums := ns }))) { tmps := #[z0, x1, pt b0, x3, x4, .int .i64 k, .slice a ns.length ca, .slice b xs.length cb, .bool ok, x9, x10, x11, x12, x13, x14, x15, x16, x17, x18, x19, x20, x21, x22, x23, x24, x25, x26, x27, x28, x29, x30, x31, x32, x33, x34, x35, x36, x37, x38, x39, x40, x41, x42, x43, x44, x45, x46, x47, x48, x49, x50, x51, x52, x53, x54, x55, x56, x57, x58, x59, x60, x61, x62, x63, x64, x65, x66, x67, x68, x69, x70, x71, x72, x73, x74, x75, x76, x77, x78, x79, x80, x81, x82, x83, x84, x85, x86, x87, x88, x89, x90, x91, x92, x93, x94, x95, x96, x97, x98, x99, x100, x101, x102, x103, x104, x105, x106, x107], defers := [] } W := by
  obtain ⟨Q, hQ⟩ : ∃ Q, Q = bodyPost Tryz.prog Tryz.f46 (LinePost w (some { kind := k, nums := ns })) := ⟨_, rfl⟩
  rw [← hQ]
  have HT : Hid (W.heap[b0]? = some (.cells zero11 40 (0, 0)) ∧ Turned (fun _ => False) w W ∧ b0 = w.heap.size) := ⟨hB, hT, hb0⟩
  subst hok
  have HN : Hid (Sl W (fun b => w.heap.size < b) 3 1 (.slice a ns.length ca) (icells ns) ns.length) := hN
  clear hN
  dsimp only [Tryz.f46, seqSnd, Option.getD]
  clear hB hT hb0
  have EL := Ele.of HT.out.1
  have k0 := EL.c0; have k1 := EL.c1; have k2 := EL.c2; have k3 := EL.c3; have k4 := EL.c4; have k5 := EL.c5; have k6 := EL.c6; have k7 := EL.c7; have k8 := EL.c8; have k9 := EL.c9; have k10 := EL.c10; have g0 := EL.f0; have g1 := EL.f1; have g2 := EL.f2; have g3 := EL.f3; have g4 := EL.f4; have g5 := EL.f5; have g6 := EL.f6; have g7 := EL.f7; have g8 := EL.f8; have g9 := EL.f9; have g10 := EL.f10; have j0 := EL.lt
  clear EL
  go_wp2
  obtain ⟨z1, z2⟩ := eleven_put W b0 40 (.int .i64 0) (.slice none 0 0) (.string ⟨#[]⟩) (.string ⟨#[]⟩) (.slice none 0 0) (.int .i64 0) (.int .i64 0) (.int .i64 0) (.int .i64 0) (.slice none 0 0) (.string ⟨#[]⟩) (.int .i64 k) (.slice a ns.length ca) (.string ⟨#[]⟩) (.string ⟨#[]⟩) (.slice none 0 0) (.int .i64 0) (.int .i64 0) (.int .i64 0) (.int .i64 0) (.slice none 0 0) (.string ⟨#[]⟩) HT.out.1
  have z3 := Go.Mine.heap_alloc_old (o := .cells #[.int .i64 k, .slice a ns.length ca, .string ⟨#[]⟩, .string ⟨#[]⟩, .slice none 0 0, .int .i64 0, .int .i64 0, .int .i64 0, .int .i64 0, .slice none 0 0, .string ⟨#[]⟩] 40) z1
  have tE := z2.new (.cells #[.int .i64 k, .slice a ns.length ca, .string ⟨#[]⟩, .string ⟨#[]⟩, .slice none 0 0, .int .i64 0, .int .i64 0, .int .i64 0, .int .i64 0, .slice none 0 0, .string ⟨#[]⟩] 40)
  rw [hQ]
  refine line_ret rfl rfl z3 ?_
  exact ⟨⟨_, rfl, a, ca, none, 0, none, 0, rfl, ((HN.out.turned tE fun i q z => by have := HT.out.2.2; omega)).widen fun i q => Nat.le_of_lt q, Sl.nil _ _ _ _, Sl.nil _ _ _ _⟩, HT.out.2.1.comp tE fun i hi q => q.elim id fun q => by have := HT.out.2.2; omega⟩

set_option maxRecDepth 100000 in
set_option maxHeartbeats 4000000 in
theorem line_10 (w : World) (b0 : Nat) (hb0 : b0 = w.heap.size) (W : World) (hB : W.heap[b0]? = some (.cells zero11 40 (0, 0))) (hT : Turned (fun _ => False) w W) (k : Int) (a b : Option Addr) (ca cb : Nat) (ns : List Int) (xs : List B) (ok : Bool) (z0 x1 x3 x4 x9 x10 x11 x12 x13 x14 x15 x16 x17 x18 x19 x20 x21 x22 x23 x24 x25 x26 x27 x28 x29 x30 x31 x32 x33 x34 x35 x36 x37 x38 x39 x40 x41 x42 x43 x44 x45 x46 x47 x48 x49 x50 x51 x52 x53 x54 x55 x56 x57 x58 x59 x60 x61 x62 x63 x64 x65 x66 x67 x68 x69 x70 x71 x72 x73 x74 x75 x76 x77 x78 x79 x80 x81 x82 x83 x84 x85 x86 x87 x88 x89 x90 x91 x92 x93 x94 x95 x96 x97 x98 x99 x100 x101 x102 x103 x104 x105 x106 x107 : Value) (t0 : B) (hk : k = 10) (hok : ok = true) (hxs : xs = [t0]) (hX : Sl W (fun b => w.heap.size < b) 9 1 (.slice b xs.length cb) (scells xs) xs.length) (hN : Sl W (fun b => w.heap.size < b) 3 1 (.slice a ns.length ca) (icells ns) ns.length) :
    (seqSnd (seqSnd (seqSnd (seqSnd (seqSnd (Tryz.f46.body.getD .skip)))))).wp Tryz.prog (bodyPost Tryz.prog Tryz.f46 (LinePost w (some { kind := 10, nums := ns, text := t0 }))) { tmps := #[z0, x1, pt b0, x3, x4, .int .i64 k, .slice a ns.length ca, .slice b xs.length cb, .bool ok, x9, x10, x11, x12, x13, x14, x15, x16, x17, x18, x19, x20, x21, x22, x23, x24, x25, x26, x27, x28, x29, x30, x31, x32, x33, x34, x35, x36, x37, x38, x39, x40, x41, x42, x43, x44, x45, x46, x47, x48, x49, x50, x51, x52, x53, x54, x55, x56, x57, x58, x59, x60, x61, x62, x63, x64, x65, x66, x67, x68, x69, x70, x71, x72, x73, x74, x75, x76, x77, x78, x79, x80, x81, x82, x83, x84, x85, x86, x87, x88, x89, x90, x91, x92, x93, x94, x95, x96, x97, x98, x99, x100, x101, x102, x103, x104, x105, x106, x107], defers := [] } W := by
  obtain ⟨Q, hQ⟩ : ∃ Q, Q = bodyPost Tryz.prog Tryz.f46 (LinePost w (some { kind := 10, nums := ns, text := t0 })) := ⟨_, rfl⟩
  rw [← hQ]
  have HT : Hid (W.heap[b0]? = some (.cells zero11 40 (0, 0)) ∧ Turned (fun _ => False) w W ∧ b0 = w.heap.size) := ⟨hB, hT, hb0⟩
  subst hok hk
  obtain ⟨g, off, hb, hS, hlt, hcs⟩ := sl_at2 hX (by rw [hxs]; simp)
  subst hb
  have p0 : W.cell? ⟨g, off, none⟩ = some (.string (bs t0)) := by have q := hcs 0 (by rw [hxs]; simp); rw [hxs] at q; exact q
  have hxl : xs.length = 1 := by rw [hxs]; rfl
  rw [hxl]
  have hbg : g ≠ b0 := fun q => by have := hS; omega
  generalize hy0 : bs t0 = yy0 at *
  have HY0 : Hid (yy0 = bs t0) := hy0.symm
  clear hy0
  clear hcs hxs hxl hX hS
  have HN : Hid (Sl W (fun b => w.heap.size < b) 3 1 (.slice a ns.length ca) (icells ns) ns.length) := hN
  clear hN
  dsimp only [Tryz.f46, seqSnd, Option.getD]
  clear hB hT hb0
  have EL := Ele.of HT.out.1
  have k0 := EL.c0; have k1 := EL.c1; have k2 := EL.c2; have k3 := EL.c3; have k4 := EL.c4; have k5 := EL.c5; have k6 := EL.c6; have k7 := EL.c7; have k8 := EL.c8; have k9 := EL.c9; have k10 := EL.c10; have g0 := EL.f0; have g1 := EL.f1; have g2 := EL.f2; have g3 := EL.f3; have g4 := EL.f4; have g5 := EL.f5; have g6 := EL.f6; have g7 := EL.f7; have g8 := EL.f8; have g9 := EL.f9; have g10 := EL.f10; have j0 := EL.lt
  clear EL
  go_wp2
  obtain ⟨z1, z2⟩ := eleven_put W b0 40 (.int .i64 0) (.slice none 0 0) (.string ⟨#[]⟩) (.string ⟨#[]⟩) (.slice none 0 0) (.int .i64 0) (.int .i64 0) (.int .i64 0) (.int .i64 0) (.slice none 0 0) (.string ⟨#[]⟩) (.int .i64 10) (.slice a ns.length ca) (.string yy0) (.string ⟨#[]⟩) (.slice none 0 0) (.int .i64 0) (.int .i64 0) (.int .i64 0) (.int .i64 0) (.slice none 0 0) (.string ⟨#[]⟩) HT.out.1
  have z3 := Go.Mine.heap_alloc_old (o := .cells #[.int .i64 10, .slice a ns.length ca, .string yy0, .string ⟨#[]⟩, .slice none 0 0, .int .i64 0, .int .i64 0, .int .i64 0, .int .i64 0, .slice none 0 0, .string ⟨#[]⟩] 40) z1
  have tE := z2.new (.cells #[.int .i64 10, .slice a ns.length ca, .string yy0, .string ⟨#[]⟩, .slice none 0 0, .int .i64 0, .int .i64 0, .int .i64 0, .int .i64 0, .slice none 0 0, .string ⟨#[]⟩] 40)
  rw [hQ]
  refine line_ret rfl rfl z3 ?_
  have e0 := HY0.out
  subst e0
  exact ⟨⟨_, rfl, a, ca, none, 0, none, 0, rfl, ((HN.out.turned tE fun i q z => by have := HT.out.2.2; omega)).widen fun i q => Nat.le_of_lt q, Sl.nil _ _ _ _, Sl.nil _ _ _ _⟩, HT.out.2.1.comp tE fun i hi q => q.elim id fun q => by have := HT.out.2.2; omega⟩

set_option maxRecDepth 100000 in
set_option maxHeartbeats 4000000 in
theorem line_11 (w : World) (b0 : Nat) (hb0 : b0 = w.heap.size) (W : World) (hB : W.heap[b0]? = some (.cells zero11 40 (0, 0))) (hT : Turned (fun _ => False) w W) (k : Int) (a b : Option Addr) (ca cb : Nat) (ns : List Int) (xs : List B) (ok : Bool) (z0 x1 x3 x4 x9 x10 x11 x12 x13 x14 x15 x16 x17 x18 x19 x20 x21 x22 x23 x24 x25 x26 x27 x28 x29 x30 x31 x32 x33 x34 x35 x36 x37 x38 x39 x40 x41 x42 x43 x44 x45 x46 x47 x48 x49 x50 x51 x52 x53 x54 x55 x56 x57 x58 x59 x60 x61 x62 x63 x64 x65 x66 x67 x68 x69 x70 x71 x72 x73 x74 x75 x76 x77 x78 x79 x80 x81 x82 x83 x84 x85 x86 x87 x88 x89 x90 x91 x92 x93 x94 x95 x96 x97 x98 x99 x100 x101 x102 x103 x104 x105 x106 x107 : Value) (t0 : B) (hk : k = 11) (hok : ok = true) (hxs : xs = [t0]) (hX : Sl W (fun b => w.heap.size < b) 9 1 (.slice b xs.length cb) (scells xs) xs.length) (hN : Sl W (fun b => w.heap.size < b) 3 1 (.slice a ns.length ca) (icells ns) ns.length) :
    (seqSnd (seqSnd (seqSnd (seqSnd (seqSnd (Tryz.f46.body.getD .skip)))))).wp Tryz.prog (bodyPost Tryz.prog Tryz.f46 (LinePost w (some { kind := 11, nums := ns, text := t0 }))) { tmps := #[z0, x1, pt b0, x3, x4, .int .i64 k, .slice a ns.length ca, .slice b xs.length cb, .bool ok, x9, x10, x11, x12, x13, x14, x15, x16, x17, x18, x19, x20, x21, x22, x23, x24, x25, x26, x27, x28, x29, x30, x31, x32, x33, x34, x35, x36, x37, x38, x39, x40, x41, x42, x43, x44, x45, x46, x47, x48, x49, x50, x51, x52, x53, x54, x55, x56, x57, x58, x59, x60, x61, x62, x63, x64, x65, x66, x67, x68, x69, x70, x71, x72, x73, x74, x75, x76, x77, x78, x79, x80, x81, x82, x83, x84, x85, x86, x87, x88, x89, x90, x91, x92, x93, x94, x95, x96, x97, x98, x99, x100, x101, x102, x103, x104, x105, x106, x107], defers := [] } W := by
  obtain ⟨Q, hQ⟩ : ∃ Q, Q = bodyPost Tryz.prog Tryz.f46 (LinePost w (some { kind := 11, nums := ns, text := t0 })) := ⟨_, rfl⟩
  rw [← hQ]
  have HT : Hid (W.heap[b0]? = some (.cells zero11 40 (0, 0)) ∧ Turned (fun _ => False) w W ∧ b0 = w.heap.size) := ⟨hB, hT, hb0⟩
  subst hok hk
  obtain ⟨g, off, hb, hS, hlt, hcs⟩ := sl_at2 hX (by rw [hxs]; simp)
  subst hb
  have p0 : W.cell? ⟨g, off, none⟩ = some (.string (bs t0)) := by have q := hcs 0 (by rw [hxs]; simp); rw [hxs] at q; exact q
  have hxl : xs.length = 1 := by rw [hxs]; rfl
  rw [hxl]
  have hbg : g ≠ b0 := fun q => by have := hS; omega
  generalize hy0 : bs t0 = yy0 at *
  have HY0 : Hid (yy0 = bs t0) := hy0.symm
  clear hy0
  clear hcs hxs hxl hX hS
  have HN : Hid (Sl W (fun b => w.heap.size < b) 3 1 (.slice a ns.length ca) (icells ns) ns.length) := hN
  clear hN
  dsimp only [Tryz.f46, seqSnd, Option.getD]
  clear hB hT hb0
  have EL := Ele.of HT.out.1
  have k0 := EL.c0; have k1 := EL.c1; have k2 := EL.c2; have k3 := EL.c3; have k4 := EL.c4; have k5 := EL.c5; have k6 := EL.c6; have k7 := EL.c7; have k8 := EL.c8; have k9 := EL.c9; have k10 := EL.c10; have g0 := EL.f0; have g1 := EL.f1; have g2 := EL.f2; have g3 := EL.f3; have g4 := EL.f4; have g5 := EL.f5; have g6 := EL.f6; have g7 := EL.f7; have g8 := EL.f8; have g9 := EL.f9; have g10 := EL.f10; have j0 := EL.lt
  clear EL
  go_wp2
  obtain ⟨z1, z2⟩ := eleven_put W b0 40 (.int .i64 0) (.slice none 0 0) (.string ⟨#[]⟩) (.string ⟨#[]⟩) (.slice none 0 0) (.int .i64 0) (.int .i64 0) (.int .i64 0) (.int .i64 0) (.slice none 0 0) (.string ⟨#[]⟩) (.int .i64 11) (.slice a ns.length ca) (.string yy0) (.string ⟨#[]⟩) (.slice none 0 0) (.int .i64 0) (.int .i64 0) (.int .i64 0) (.int .i64 0) (.slice none 0 0) (.string ⟨#[]⟩) HT.out.1
  have z3 := Go.Mine.heap_alloc_old (o := .cells #[.int .i64 11, .slice a ns.length ca, .string yy0, .string ⟨#[]⟩, .slice none 0 0, .int .i64 0, .int .i64 0, .int .i64 0, .int .i64 0, .slice none 0 0, .string ⟨#[]⟩] 40) z1
  have tE := z2.new (.cells #[.int .i64 11, .slice a ns.length ca, .string yy0, .string ⟨#[]⟩, .slice none 0 0, .int .i64 0, .int .i64 0, .int .i64 0, .int .i64 0, .slice none 0 0, .string ⟨#[]⟩] 40)
  rw [hQ]
  refine line_ret rfl rfl z3 ?_
  have e0 := HY0.out
  subst e0
  exact ⟨⟨_, rfl, a, ca, none, 0, none, 0, rfl, ((HN.out.turned tE fun i q z => by have := HT.out.2.2; omega)).widen fun i q => Nat.le_of_lt q, Sl.nil _ _ _ _, Sl.nil _ _ _ _⟩, HT.out.2.1.comp tE fun i hi q => q.elim id fun q => by have := HT.out.2.2; omega⟩

set_option maxRecDepth 100000 in
set_option maxHeartbeats 4000000 in
theorem line_9 (w : World) (b0 : Nat) (hb0 : b0 = w.heap.size) (W : World) (hB : W.heap[b0]? = some (.cells zero11 40 (0, 0))) (hT : Turned (fun _ => False) w W) (k : Int) (a b : Option Addr) (ca cb : Nat) (ns : List Int) (xs : List B) (ok : Bool) (z0 x1 x3 x4 x9 x10 x11 x12 x13 x14 x15 x16 x17 x18 x19 x20 x21 x22 x23 x24 x25 x26 x27 x28 x29 x30 x31 x32 x33 x34 x35 x36 x37 x38 x39 x40 x41 x42 x43 x44 x45 x46 x47 x48 x49 x50 x51 x52 x53 x54 x55 x56 x57 x58 x59 x60 x61 x62 x63 x64 x65 x66 x67 x68 x69 x70 x71 x72 x73 x74 x75 x76 x77 x78 x79 x80 x81 x82 x83 x84 x85 x86 x87 x88 x89 x90 x91 x92 x93 x94 x95 x96 x97 x98 x99 x100 x101 x102 x103 x104 x105 x106 x107 : Value) (t0 t1 : B) (hk : k = 9) (hok : ok = true) (hxs : xs = [t0, t1]) (hX : Sl W (fun b => w.heap.size < b) 9 1 (.slice b xs.length cb) (scells xs) xs.length) (hN : Sl W (fun b => w.heap.size < b) 3 1 (.slice a ns.length ca) (icells ns) ns.length) :
    (seqSnd (seqSnd (seqSnd (seqSnd (seqSnd (Tryz.f46.body.getD .skip)))))).wp Tryz.prog (bodyPost Tryz.prog Tryz.f46 (LinePost w (some { kind := 9, nums := ns, text := t0, more := t1 }))) { tmps := #[z0, x1, pt b0, x3, x4, .int .i64 k, .slice a ns.length ca, .slice b xs.length cb, .bool ok, x9, x10, x11, x12, x13, x14, x15, x16, x17, x18, x19, x20, x21, x22, x23, x24, x25, x26, x27, x28, x29, x30, x31, x32, x33, x34, x35, x36, x37, x38, x39, x40, x41, x42, x43, x44, x45, x46, x47, x48, x49, x50, x51, x52, x53, x54, x55, x56, x57, x58, x59, x60, x61, x62, x63, x64, x65, x66, x67, x68, x69, x70, x71, x72, x73, x74, x75, x76, x77, x78, x79, x80, x81, x82, x83, x84, x85, x86, x87, x88, x89, x90, x91, x92, x93, x94, x95, x96, x97, x98, x99, x100, x101, x102, x103, x104, x105, x106, x107], defers := [] } W := by
  obtain ⟨Q, hQ⟩ : ∃ Q, Q = bodyPost Tryz.prog Tryz.f46 (LinePost w (some { kind := 9, nums := ns, text := t0, more := t1 })) := ⟨_, rfl⟩
  rw [← hQ]
  have HT : Hid (W.heap[b0]? = some (.cells zero11 40 (0, 0)) ∧ Turned (fun _ => False) w W ∧ b0 = w.heap.size) := ⟨hB, hT, hb0⟩
  subst hok hk
  obtain ⟨g, off, hb, hS, hlt, hcs⟩ := sl_at2 hX (by rw [hxs]; simp)
  subst hb
  have p0 : W.cell? ⟨g, off, none⟩ = some (.string (bs t0)) := by have q := hcs 0 (by rw [hxs]; simp); rw [hxs] at q; exact q
  have p1 : W.cell? ⟨g, off + 1, none⟩ = some (.string (bs t1)) := by have q := hcs 1 (by rw [hxs]; simp); rw [hxs] at q; exact q
  have hxl : xs.length = 2 := by rw [hxs]; rfl
  rw [hxl]
  have hbg : g ≠ b0 := fun q => by have := hS; omega
  generalize hy0 : bs t0 = yy0 at *
  have HY0 : Hid (yy0 = bs t0) := hy0.symm
  clear hy0
  generalize hy1 : bs t1 = yy1 at *
  have HY1 : Hid (yy1 = bs t1) := hy1.symm
  clear hy1
  clear hcs hxs hxl hX hS
  have HN : Hid (Sl W (fun b => w.heap.size < b) 3 1 (.slice a ns.length ca) (icells ns) ns.length) := hN
  clear hN
  dsimp only [Tryz.f46, seqSnd, Option.getD]
  clear hB hT hb0
  have EL := Ele.of HT.out.1
  have k0 := EL.c0; have k1 := EL.c1; have k2 := EL.c2; have k3 := EL.c3; have k4 := EL.c4; have k5 := EL.c5; have k6 := EL.c6; have k7 := EL.c7; have k8 := EL.c8; have k9 := EL.c9; have k10 := EL.c10; have g0 := EL.f0; have g1 := EL.f1; have g2 := EL.f2; have g3 := EL.f3; have g4 := EL.f4; have g5 := EL.f5; have g6 := EL.f6; have g7 := EL.f7; have g8 := EL.f8; have g9 := EL.f9; have g10 := EL.f10; have j0 := EL.lt
  clear EL
  go_wp2
  obtain ⟨z1, z2⟩ := eleven_put W b0 40 (.int .i64 0) (.slice none 0 0) (.string ⟨#[]⟩) (.string ⟨#[]⟩) (.slice none 0 0) (.int .i64 0) (.int .i64 0) (.int .i64 0) (.int .i64 0) (.slice none 0 0) (.string ⟨#[]⟩) (.int .i64 9) (.slice a ns.length ca) (.string yy0) (.string yy1) (.slice none 0 0) (.int .i64 0) (.int .i64 0) (.int .i64 0) (.int .i64 0) (.slice none 0 0) (.string ⟨#[]⟩) HT.out.1
  have z3 := Go.Mine.heap_alloc_old (o := .cells #[.int .i64 9, .slice a ns.length ca, .string yy0, .string yy1, .slice none 0 0, .int .i64 0, .int .i64 0, .int .i64 0, .int .i64 0, .slice none 0 0, .string ⟨#[]⟩] 40) z1
  have tE := z2.new (.cells #[.int .i64 9, .slice a ns.length ca, .string yy0, .string yy1, .slice none 0 0, .int .i64 0, .int .i64 0, .int .i64 0, .int .i64 0, .slice none 0 0, .string ⟨#[]⟩] 40)
  rw [hQ]
  refine line_ret rfl rfl z3 ?_
  have e0 := HY0.out
  subst e0
  have e1 := HY1.out
  subst e1
  exact ⟨⟨_, rfl, a, ca, none, 0, none, 0, rfl, ((HN.out.turned tE fun i q z => by have := HT.out.2.2; omega)).widen fun i q => Nat.le_of_lt q, Sl.nil _ _ _ _, Sl.nil _ _ _ _⟩, HT.out.2.1.comp tE fun i hi q => q.elim id fun q => by have := HT.out.2.2; omega⟩

end Go.Proofs.YteblabpplaaddaaGreatDoor
