/- The document's reading: a line: six numbers, entries (printed by gen_dv.py). -/
import Derived.Test.YteblabpplaaddaaGreatDoorDm
import Derived.Test.YteblabpplaaddaaGreatDoorSm
import Derived.Deep.LoopGhost
set_option linter.unusedVariables false
set_option linter.unusedSimpArgs false
namespace Go.Proofs.YteblabpplaaddaaGreatDoor
open Go.RowKit Go.Mine Go.Mine.Sc

theorem treeOf_snoc : ∀ (l : List Int) (m : List B) (n : Int) (x : B), l.length = m.length → treeOf (l ++ [n]) (m ++ [x]) = match treeOf l m with | none => none | some t => if fitsN n then some (t ++ [(x, n)]) else none
  | [], [], n, x, _ => by simp [treeOf]
  | k :: l, y :: m, n, x, h => by
    have ih := treeOf_snoc l m n x (by simpa using h)
    simp only [List.cons_append, treeOf]
    by_cases hf : fitsN k
    · rw [if_pos hf, if_pos hf, ih]
      cases treeOf l m with
      | none => rfl
      | some t =>
        simp only [Option.map_some]
        split <;> rfl
    · rw [if_neg hf, if_neg hf]
theorem treeOf_app_none : ∀ (l l2 : List Int) (m m2 : List B), l.length = m.length → treeOf l m = none → treeOf (l ++ l2) (m ++ m2) = none
  | [], _, [], _, _, h => by simp [treeOf] at h
  | k :: l, l2, y :: m, m2, h, hn => by
    simp only [List.cons_append, treeOf] at hn ⊢
    by_cases hf : fitsN k
    · rw [if_pos hf] at hn ⊢
      rw [treeOf_app_none l l2 m m2 (by simpa using h) (by cases q : treeOf l m with | none => rfl | some t => rw [q] at hn; simp at hn)]
      rfl
    · rw [if_neg hf]
theorem treeOf_step {ns : List Int} {xs : List B} {j : Nat} {n : Int} {x : B} {t : List (B × Int)} (hl : ns.length = xs.length) (h : treeOf (ns.take j) (xs.take j) = some t) (hn : ns[j]? = some n) (hx : xs[j]? = some x) :
    treeOf (ns.take (j + 1)) (xs.take (j + 1)) = if fitsN n then some (t ++ [(x, n)]) else none := by
  rw [List.take_add_one, List.take_add_one, hn, hx]
  have := treeOf_snoc (ns.take j) (xs.take j) n x (by simp; omega)
  rw [h] at this
  exact this
theorem treeOf_bad {ns : List Int} {xs : List B} {j : Nat} (hl : ns.length = xs.length) (h : treeOf (ns.take j) (xs.take j) = none) : treeOf ns xs = none := by
  have := treeOf_app_none (ns.take j) (ns.drop j) (xs.take j) (xs.drop j) (by simp; omega) h
  rwa [List.take_append_drop, List.take_append_drop] at this

set_option maxRecDepth 100000 in
set_option maxHeartbeats 4000000 in
theorem line_1y (w : World) (b0 : Nat) (hb0 : b0 = w.heap.size) (W : World) (hB : W.heap[b0]? = some (.cells zero11 40 (0, 0))) (hT : Turned (fun _ => False) w W) (k : Int) (a b : Option Addr) (ca cb : Nat) (ns : List Int) (xs : List B) (ok : Bool) (z0 x1 x3 x4 x9 x10 x11 x12 x13 x14 x15 x16 x17 x18 x19 x20 x21 x22 x23 x24 x25 x26 x27 x28 x29 x30 x31 x32 x33 x34 x35 x36 x37 x38 x39 x40 x41 x42 x43 x44 x45 x46 x47 x48 x49 x50 x51 x52 x53 x54 x55 x56 x57 x58 x59 x60 x61 x62 x63 x64 x65 x66 x67 x68 x69 x70 x71 x72 x73 x74 x75 x76 x77 x78 x79 x80 x81 x82 x83 x84 x85 x86 x87 x88 x89 x90 x91 x92 x93 x94 x95 x96 x97 x98 x99 x100 x101 x102 x103 x104 x105 x106 x107 : Value) (n0 n1 n2 n3 n4 n5 : Int) (hf : fitsN n4) (hk : k = 1) (hok : ok = true) (hns : ns = [n0, n1, n2, n3, n4, n5]) (hN : Sl W (fun b => w.heap.size < b) 3 1 (.slice a ns.length ca) (icells ns) ns.length) :
    (seqSnd (seqSnd (seqSnd (seqSnd (seqSnd (Tryz.f46.body.getD .skip)))))).wp Tryz.prog (bodyPost Tryz.prog Tryz.f46 (LinePost w (some { kind := 1, nums := [n0, n1, n2, n3, n4, n5] }))) { tmps := #[z0, x1, pt b0, x3, x4, .int .i64 k, .slice a ns.length ca, .slice b xs.length cb, .bool ok, x9, x10, x11, x12, x13, x14, x15, x16, x17, x18, x19, x20, x21, x22, x23, x24, x25, x26, x27, x28, x29, x30, x31, x32, x33, x34, x35, x36, x37, x38, x39, x40, x41, x42, x43, x44, x45, x46, x47, x48, x49, x50, x51, x52, x53, x54, x55, x56, x57, x58, x59, x60, x61, x62, x63, x64, x65, x66, x67, x68, x69, x70, x71, x72, x73, x74, x75, x76, x77, x78, x79, x80, x81, x82, x83, x84, x85, x86, x87, x88, x89, x90, x91, x92, x93, x94, x95, x96, x97, x98, x99, x100, x101, x102, x103, x104, x105, x106, x107], defers := [] } W := by
  obtain ⟨Q, hQ⟩ : ∃ Q, Q = bodyPost Tryz.prog Tryz.f46 (LinePost w (some { kind := 1, nums := [n0, n1, n2, n3, n4, n5] })) := ⟨_, rfl⟩
  rw [← hQ]
  have HT : Hid (W.heap[b0]? = some (.cells zero11 40 (0, 0)) ∧ Turned (fun _ => False) w W ∧ b0 = w.heap.size) := ⟨hB, hT, hb0⟩
  subst hok hk
  obtain ⟨g, off, hb, hS, hlt, hcs⟩ := sl_at2 hN (by rw [hns]; simp)
  subst hb
  have q4 : W.cell? ⟨g, off + 4, none⟩ = some (.int .i64 n4) := by have q := hcs 4 (by rw [hns]; simp); rw [hns] at q; exact q
  have hxl : ns.length = 6 := by rw [hns]; rfl
  have HN : Hid (Sl W (fun b => w.heap.size < b) 3 1 (.slice (some ⟨g, off, none⟩) 6 ca) (icells [n0, n1, n2, n3, n4, n5]) 6) := hidD (by rw [hns] at hN; exact hN)
  rw [hxl]
  have hbg : g ≠ b0 := fun q => by have := hS; omega
  have h69 : ∀ W, Calls Tryz.prog 69 #[.int .i64 n4] W fun e w' => e = .returned (.bool true) ∧ W = w' := fun W => (fits_any n4 W).mono fun e w' h => ⟨by rw [h.1, decide_eq_true hf], h.2.symm⟩
  clear hcs hns hxl hN hS hf
  dsimp only [Tryz.f46, seqSnd, Option.getD]
  rw [hQ]
  clear hQ
  clear hB hT hb0
  have EL := Ele.of HT.out.1
  have k0 := EL.c0; have k1 := EL.c1; have k2 := EL.c2; have k3 := EL.c3; have k4 := EL.c4; have k5 := EL.c5; have k6 := EL.c6; have k7 := EL.c7; have k8 := EL.c8; have k9 := EL.c9; have k10 := EL.c10; have g0 := EL.f0; have g1 := EL.f1; have g2 := EL.f2; have g3 := EL.f3; have g4 := EL.f4; have g5 := EL.f5; have g6 := EL.f6; have g7 := EL.f7; have g8 := EL.f8; have g9 := EL.f9; have g10 := EL.f10; have j0 := EL.lt
  clear EL
  go_wp2
  go_region_with (go_at_call 69; (with_reducible refine (h69 _).mono ?_); rintro e w4 ⟨rfl, rfl⟩)
  all_goals go_wp2
  all_goals
    obtain ⟨z1, z2⟩ := eleven_put W b0 40 (.int .i64 0) (.slice none 0 0) (.string ⟨#[]⟩) (.string ⟨#[]⟩) (.slice none 0 0) (.int .i64 0) (.int .i64 0) (.int .i64 0) (.int .i64 0) (.slice none 0 0) (.string ⟨#[]⟩) (.int .i64 1) (.slice (some ⟨g, off, none⟩) 6 ca) (.string ⟨#[]⟩) (.string ⟨#[]⟩) (.slice none 0 0) (.int .i64 0) (.int .i64 0) (.int .i64 0) (.int .i64 0) (.slice none 0 0) (.string ⟨#[]⟩) HT.out.1
    have z3 := Go.Mine.heap_alloc_old (o := .cells #[.int .i64 1, .slice (some ⟨g, off, none⟩) 6 ca, .string ⟨#[]⟩, .string ⟨#[]⟩, .slice none 0 0, .int .i64 0, .int .i64 0, .int .i64 0, .int .i64 0, .slice none 0 0, .string ⟨#[]⟩] 40) z1
    have tE := (z2.new (.cells #[.int .i64 1, .slice (some ⟨g, off, none⟩) 6 ca, .string ⟨#[]⟩, .string ⟨#[]⟩, .slice none 0 0, .int .i64 0, .int .i64 0, .int .i64 0, .int .i64 0, .slice none 0 0, .string ⟨#[]⟩] 40)).draw
    refine line_ret rfl rfl z3 ?_
    exact ⟨⟨_, rfl, some ⟨g, off, none⟩, ca, none, 0, none, 0, rfl, ((HN.out.turned tE fun i q z => by have := HT.out.2.2; omega)).widen fun i q => Nat.le_of_lt q, Sl.nil _ _ _ _, Sl.nil _ _ _ _⟩, HT.out.2.1.comp tE fun i hi q => q.elim id fun q => by have := HT.out.2.2; omega⟩

set_option maxRecDepth 100000 in
set_option maxHeartbeats 4000000 in
theorem line_1n (w : World) (b0 : Nat) (hb0 : b0 = w.heap.size) (W : World) (hB : W.heap[b0]? = some (.cells zero11 40 (0, 0))) (hT : Turned (fun _ => False) w W) (k : Int) (a b : Option Addr) (ca cb : Nat) (ns : List Int) (xs : List B) (ok : Bool) (z0 x1 x3 x4 x9 x10 x11 x12 x13 x14 x15 x16 x17 x18 x19 x20 x21 x22 x23 x24 x25 x26 x27 x28 x29 x30 x31 x32 x33 x34 x35 x36 x37 x38 x39 x40 x41 x42 x43 x44 x45 x46 x47 x48 x49 x50 x51 x52 x53 x54 x55 x56 x57 x58 x59 x60 x61 x62 x63 x64 x65 x66 x67 x68 x69 x70 x71 x72 x73 x74 x75 x76 x77 x78 x79 x80 x81 x82 x83 x84 x85 x86 x87 x88 x89 x90 x91 x92 x93 x94 x95 x96 x97 x98 x99 x100 x101 x102 x103 x104 x105 x106 x107 : Value) (n0 n1 n2 n3 n4 n5 : Int) (hf : ¬ fitsN n4) (hk : k = 1) (hok : ok = true) (hns : ns = [n0, n1, n2, n3, n4, n5]) (hN : Sl W (fun b => w.heap.size < b) 3 1 (.slice a ns.length ca) (icells ns) ns.length) :
    (seqSnd (seqSnd (seqSnd (seqSnd (seqSnd (Tryz.f46.body.getD .skip)))))).wp Tryz.prog (bodyPost Tryz.prog Tryz.f46 (LinePost w (none))) { tmps := #[z0, x1, pt b0, x3, x4, .int .i64 k, .slice a ns.length ca, .slice b xs.length cb, .bool ok, x9, x10, x11, x12, x13, x14, x15, x16, x17, x18, x19, x20, x21, x22, x23, x24, x25, x26, x27, x28, x29, x30, x31, x32, x33, x34, x35, x36, x37, x38, x39, x40, x41, x42, x43, x44, x45, x46, x47, x48, x49, x50, x51, x52, x53, x54, x55, x56, x57, x58, x59, x60, x61, x62, x63, x64, x65, x66, x67, x68, x69, x70, x71, x72, x73, x74, x75, x76, x77, x78, x79, x80, x81, x82, x83, x84, x85, x86, x87, x88, x89, x90, x91, x92, x93, x94, x95, x96, x97, x98, x99, x100, x101, x102, x103, x104, x105, x106, x107], defers := [] } W := by
  obtain ⟨Q, hQ⟩ : ∃ Q, Q = bodyPost Tryz.prog Tryz.f46 (LinePost w (none)) := ⟨_, rfl⟩
  rw [← hQ]
  have HT : Hid (W.heap[b0]? = some (.cells zero11 40 (0, 0)) ∧ Turned (fun _ => False) w W ∧ b0 = w.heap.size) := ⟨hB, hT, hb0⟩
  subst hok hk
  obtain ⟨g, off, hb, hS, hlt, hcs⟩ := sl_at2 hN (by rw [hns]; simp)
  subst hb
  have q4 : W.cell? ⟨g, off + 4, none⟩ = some (.int .i64 n4) := by have q := hcs 4 (by rw [hns]; simp); rw [hns] at q; exact q
  have hxl : ns.length = 6 := by rw [hns]; rfl
  have HN : Hid (Sl W (fun b => w.heap.size < b) 3 1 (.slice (some ⟨g, off, none⟩) 6 ca) (icells [n0, n1, n2, n3, n4, n5]) 6) := hidD (by rw [hns] at hN; exact hN)
  rw [hxl]
  have hbg : g ≠ b0 := fun q => by have := hS; omega
  have h69 : ∀ W, Calls Tryz.prog 69 #[.int .i64 n4] W fun e w' => e = .returned (.bool false) ∧ W = w' := fun W => (fits_any n4 W).mono fun e w' h => ⟨by rw [h.1, decide_eq_false hf], h.2.symm⟩
  clear hcs hns hxl hN hS hf
  dsimp only [Tryz.f46, seqSnd, Option.getD]
  rw [hQ]
  clear hQ
  clear hB hT hb0
  have EL := Ele.of HT.out.1
  have k0 := EL.c0; have k1 := EL.c1; have k2 := EL.c2; have k3 := EL.c3; have k4 := EL.c4; have k5 := EL.c5; have k6 := EL.c6; have k7 := EL.c7; have k8 := EL.c8; have k9 := EL.c9; have k10 := EL.c10; have g0 := EL.f0; have g1 := EL.f1; have g2 := EL.f2; have g3 := EL.f3; have g4 := EL.f4; have g5 := EL.f5; have g6 := EL.f6; have g7 := EL.f7; have g8 := EL.f8; have g9 := EL.f9; have g10 := EL.f10; have j0 := EL.lt
  clear EL
  go_wp2
  go_region_with (go_at_call 69; (with_reducible refine (h69 _).mono ?_); rintro e w4 ⟨rfl, rfl⟩)
  all_goals go_wp2
  all_goals
    obtain ⟨z1, z2⟩ := eleven_put W b0 40 (.int .i64 0) (.slice none 0 0) (.string ⟨#[]⟩) (.string ⟨#[]⟩) (.slice none 0 0) (.int .i64 0) (.int .i64 0) (.int .i64 0) (.int .i64 0) (.slice none 0 0) (.string ⟨#[]⟩) (.int .i64 1) (.slice (some ⟨g, off, none⟩) 6 ca) (.string ⟨#[]⟩) (.string ⟨#[]⟩) (.slice none 0 0) (.int .i64 0) (.int .i64 0) (.int .i64 0) (.int .i64 0) (.slice none 0 0) (.string ⟨#[]⟩) HT.out.1
    have z3 := Go.Mine.heap_alloc_old (o := .cells #[.int .i64 1, .slice (some ⟨g, off, none⟩) 6 ca, .string ⟨#[]⟩, .string ⟨#[]⟩, .slice none 0 0, .int .i64 0, .int .i64 0, .int .i64 0, .int .i64 0, .slice none 0 0, .string ⟨#[]⟩] 40) z1
    have tE := (z2.new (.cells #[.int .i64 1, .slice (some ⟨g, off, none⟩) 6 ca, .string ⟨#[]⟩, .string ⟨#[]⟩, .slice none 0 0, .int .i64 0, .int .i64 0, .int .i64 0, .int .i64 0, .slice none 0 0, .string ⟨#[]⟩] 40)).draw
    refine line_ret rfl rfl z3 ?_
    exact ⟨⟨_, _, _, _, _, _, _, _, _, _, _, _, _, _, _, _, _, rfl⟩, HT.out.2.1.comp tE fun i hi q => q.elim id fun q => by have := HT.out.2.2; omega⟩

/-- the loop of entries -/
def LtR (w W : World) (b0 : Nat) (ns : List Int) (xs : List B) (g : Nat) (i : Value) (wr : World) : Prop :=
  ∃ (j : Nat) (t : List (B × Int)) (a4 : Option Addr) (c4 : Nat) (S4 : Nat → Prop), i = .int .i64 (j : Nat) ∧ j + g = ns.length ∧ treeOf (ns.take j) (xs.take j) = some t ∧ t.length = j ∧ wr.heap[W.heap.size]? = some (.cells #[.int .i64 2, .slice none 0 0, .string ⟨#[]⟩, .string ⟨#[]⟩, .slice a4 j c4, .int .i64 0, .int .i64 0, .int .i64 0, .int .i64 0, .slice none 0 0, .string ⟨#[]⟩] 40 (0, 0)) ∧ wr.heap[b0]? = some (.cells zero11 40 (0, 0)) ∧
    Sl wr S4 54 2 (.slice a4 j c4) (tcells t) j ∧ (∀ b, S4 b → W.heap.size < b) ∧ Turned (fun _ => False) W wr
theorem lt_step {w W wr w9 : World} {b0 : Nat} {ns : List Int} {xs : List B} {j g : Nat} {t : List (B × Int)} {a4 a5 : Option Addr} {c4 c5 : Nat} {S4 : Nat → Prop} {n : Int} {x : B} {i : Value} (hl : ns.length = xs.length) (ht : treeOf (ns.take j) (xs.take j) = some t) (htl : t.length = j) (hn : ns[j]? = some n) (hx : xs[j]? = some x) (hf : fitsN n)
    (h9 : wr.heap[W.heap.size]? = some (.cells #[.int .i64 2, .slice none 0 0, .string ⟨#[]⟩, .string ⟨#[]⟩, .slice a4 j c4, .int .i64 0, .int .i64 0, .int .i64 0, .int .i64 0, .slice none 0 0, .string ⟨#[]⟩] 40 (0, 0))) (h0 : wr.heap[b0]? = some (.cells zero11 40 (0, 0))) (hb : b0 < W.heap.size) (hS : ∀ b, S4 b → W.heap.size < b) (hT : Turned (fun _ => False) W wr)
    (q : Sl w9 (More S4 (wr.alloc (.cells #[.string (bs x), .int .u32 n] 54))) 54 2 (.slice a5 (j + 1) c5) (tcells t ++ [.string (bs x), .int .u32 n]) (j + 1)) (t9 : Turned S4 (wr.alloc (.cells #[.string (bs x), .int .u32 n] 54)) w9) (hi : i = .int .i64 ((j + 1 : Nat) : Int)) (hg : j + 1 + g = ns.length) :
    LtR w W b0 ns xs g i (w9.setCell ⟨W.heap.size, 4, none⟩ (.slice a5 (j + 1) c5)) := by
  have tn : Turned S4 wr w9 := (Turned.alloc S4 wr _).trans t9 fun _ _ q => q
  have sz : (wr.alloc (.cells #[.string (bs x), .int .u32 n] 54)).heap.size = wr.heap.size + 1 := by simp
  have s1 := hT.size
  have k9 : w9.heap[W.heap.size]? = some (.cells #[.int .i64 2, .slice none 0 0, .string ⟨#[]⟩, .string ⟨#[]⟩, .slice a4 j c4, .int .i64 0, .int .i64 0, .int .i64 0, .int .i64 0, .slice none 0 0, .string ⟨#[]⟩] 40 (0, 0)) := (tn.block _ (lt_of_block h9) fun q => by have := hS _ q; omega).trans h9
  have k0 : w9.heap[b0]? = some (.cells zero11 40 (0, 0)) := (tn.block _ (lt_of_block h0) fun q => by have := hS _ q; omega).trans h0
  have ts : Turned (· = W.heap.size) w9 (w9.setCell ⟨W.heap.size, 4, none⟩ (.slice a5 (j + 1) c5)) := Turned.setCell (S := (· = W.heap.size)) (p := ⟨W.heap.size, 4, none⟩) rfl _
  refine ⟨j + 1, t ++ [(x, n)], a5, c5, More S4 (wr.alloc (.cells #[.string (bs x), .int .u32 n] 54)), hi, hg, by rw [treeOf_step hl ht hn hx, if_pos hf], by simp [htl], Go.Mine.heap_setCell_same k9 _, (ts.block _ (lt_of_block k0) (by omega)).trans k0, ?_, ?_, ?_⟩
  · rw [tcells_app]
    have h9s := lt_of_block h9
    exact q.turned ts fun b z y => z.elim (fun z => by have := hS b z; omega) fun z => by omega
  · have h9s := lt_of_block h9
    rintro b (z | z)
    · exact hS b z
    · omega
  · exact (hT.comp (tn.comp ts fun b _ z => z) (T := fun _ => False) fun b hb z => z.elim id fun z => z.elim (fun z => by have := hS b z; omega) fun z => by omega)

theorem info40 : (Tryz.prog.info? 40).map (·.size) = some 11 := by kernel_rfl
set_option maxRecDepth 100000 in
set_option maxHeartbeats 4000000 in
theorem line_2 (w : World) (b0 : Nat) (hb0 : b0 = w.heap.size) (W : World) (hB : W.heap[b0]? = some (.cells zero11 40 (0, 0))) (hT : Turned (fun _ => False) w W) (k : Int) (a b : Option Addr) (ca cb : Nat) (ns : List Int) (xs : List B) (ok : Bool) (z0 x1 x3 x4 x9 x10 x11 x12 x13 x14 x15 x16 x17 x18 x19 x20 x21 x22 x23 x24 x25 x26 x27 x28 x29 x30 x31 x32 x33 x34 x35 x36 x37 x38 x39 x40 x41 x42 x43 x44 x45 x46 x47 x48 x49 x50 x51 x52 x53 x54 x55 x56 x57 x58 x59 x60 x61 x62 x63 x64 x65 x66 x67 x68 x69 x70 x71 x72 x73 x74 x75 x76 x77 x78 x79 x80 x81 x82 x83 x84 x85 x86 x87 x88 x89 x90 x91 x92 x93 x94 x95 x96 x97 x98 x99 x100 x101 x102 x103 x104 x105 x106 x107 : Value) (hk : k = 2) (hok : ok = true) (hl : ns.length = xs.length) (hnl : ns.length ≤ 1000000) (hN : Sl W (fun b => w.heap.size < b) 3 1 (.slice a ns.length ca) (icells ns) ns.length) (hX : Sl W (fun b => w.heap.size < b) 9 1 (.slice b xs.length cb) (scells xs) xs.length) :
    (seqSnd (seqSnd (seqSnd (seqSnd (seqSnd (Tryz.f46.body.getD .skip)))))).wp Tryz.prog (bodyPost Tryz.prog Tryz.f46 (LinePost w (treeCmd (treeOf ns xs)))) { tmps := #[z0, x1, pt b0, x3, x4, .int .i64 k, .slice a ns.length ca, .slice b xs.length cb, .bool ok, x9, x10, x11, x12, x13, x14, x15, x16, x17, x18, x19, x20, x21, x22, x23, x24, x25, x26, x27, x28, x29, x30, x31, x32, x33, x34, x35, x36, x37, x38, x39, x40, x41, x42, x43, x44, x45, x46, x47, x48, x49, x50, x51, x52, x53, x54, x55, x56, x57, x58, x59, x60, x61, x62, x63, x64, x65, x66, x67, x68, x69, x70, x71, x72, x73, x74, x75, x76, x77, x78, x79, x80, x81, x82, x83, x84, x85, x86, x87, x88, x89, x90, x91, x92, x93, x94, x95, x96, x97, x98, x99, x100, x101, x102, x103, x104, x105, x106, x107], defers := [] } W := by
  obtain ⟨Q, hQ⟩ : ∃ Q, Q = bodyPost Tryz.prog Tryz.f46 (LinePost w (treeCmd (treeOf ns xs))) := ⟨_, rfl⟩
  rw [← hQ]
  have HT : Hid (W.heap[b0]? = some (.cells zero11 40 (0, 0)) ∧ Turned (fun _ => False) w W ∧ b0 = w.heap.size) := ⟨hB, hT, hb0⟩
  subst hok hk
  have HL : Hid (ns.length = xs.length) := hl
  have HXN : Hid (Sl W (fun b => w.heap.size < b) 3 1 (.slice a ns.length ca) (icells ns) ns.length ∧ Sl W (fun b => w.heap.size < b) 9 1 (.slice b xs.length cb) (scells xs) xs.length ∧ b0 < W.heap.size ∧ ns.length ≤ 1000000) := ⟨hN, hX, lt_of_block hB, hnl⟩
  have hcn : ns.length ≤ 9223372036854775807 := sl_len hN
  have hcx : xs.length ≤ 9223372036854775807 := sl_len hX
  have hb9 : b0 ≠ W.heap.size := by have := lt_of_block hB; omega
  have B0 : Hid (LtR w W b0 ns xs ns.length (.int .i64 0) (W.alloc (.cells #[.int .i64 2, .slice none 0 0, .string ⟨#[]⟩, .string ⟨#[]⟩, .slice none 0 0, .int .i64 0, .int .i64 0, .int .i64 0, .int .i64 0, .slice none 0 0, .string ⟨#[]⟩] 40))) :=
    ⟨0, [], none, 0, fun _ => False, rfl, by omega, rfl, rfl, heap_alloc_new W _, Go.Mine.heap_alloc_old hB, Sl.nil _ _ _ _, fun _ q => q.elim, (Turned.refl _ W).new _⟩
  obtain ⟨RT, hRT⟩ : ∃ RT, RT = treeOf ns xs := ⟨_, rfl⟩
  have HRT : Hid (RT = treeOf ns xs) := hRT
  rw [← hRT] at hQ
  clear hRT hN hX hl hnl
  dsimp only [Tryz.f46, seqSnd, Option.getD]
  rw [hQ]
  clear hQ
  clear hB hT hb0
  go_wp2
  go_loopg [10] ns.length (fun g i wr => LtR w W b0 ns xs g i wr)
  case atStart => exact B0.out
  case round =>
    obtain ⟨j, t, a4, c4, S4, rfl, hjg, htr, htl, h9, h0, hsl, hS4, hTr⟩ := hrel
    have G : Hid (j + gk = ns.length ∧ treeOf (ns.take j) (xs.take j) = some t ∧ t.length = j) := ⟨hjg, htr, htl⟩
    have D : Hid (wr.heap[W.heap.size]? = some (.cells #[.int .i64 2, .slice none 0 0, .string ⟨#[]⟩, .string ⟨#[]⟩, .slice a4 j c4, .int .i64 0, .int .i64 0, .int .i64 0, .int .i64 0, .slice none 0 0, .string ⟨#[]⟩] 40 (0, 0)) ∧ wr.heap[b0]? = some (.cells zero11 40 (0, 0)) ∧ Sl wr S4 54 2 (.slice a4 j c4) (tcells t) j ∧ (∀ b, S4 b → W.heap.size < b) ∧ Turned (fun _ => False) W wr) := ⟨h9, h0, hsl, hS4, hTr⟩
    clear hjg htr htl h9 h0 hsl hS4 hTr B0
    by_cases hlt : j < ns.length
    · obtain ⟨n, hn⟩ : ∃ n, ns[j]? = some n := ⟨_, List.getElem?_eq_getElem hlt⟩
      obtain ⟨x, hx⟩ : ∃ x, xs[j]? = some x := ⟨_, List.getElem?_eq_getElem (by rw [← HL.out]; exact hlt)⟩
      have C : Hid (ns[j]? = some n ∧ xs[j]? = some x) := ⟨hn, hx⟩
      obtain ⟨g1, o1, rfl, hS1, hg1, hc1⟩ := sl_at2 (HXN.out.1.turned D.out.2.2.2.2 fun _ _ q => q) (by omega)
      obtain ⟨g2, o2, rfl, hS2, hg2, hc2⟩ := sl_at2 (HXN.out.2.1.turned D.out.2.2.2.2 fun _ _ q => q) (by rw [← HL.out]; omega)
      have c1 : wr.cell? ⟨g1, o1 + j, none⟩ = some (.int .i64 n) := by rw [hc1 j hlt]; simp [icells, hn]
      have c2 : wr.cell? ⟨g2, o2 + j, none⟩ = some (.string (bs x)) := by rw [hc2 j (by rw [← HL.out]; exact hlt)]; simp [scells, hx]
      have hlt2 : j < xs.length := by rw [← HL.out]; exact hlt
      have k4 := cell_of D.out.1 4 _ rfl
      have f4 := free_of D.out.1 4
      have m4 := lt_of_block D.out.1
      clear hn hx hc1 hc2 hS1 hS2
      by_cases hf : fitsN n
      · have h69 : ∀ W, Calls Tryz.prog 69 #[.int .i64 n] W fun e w' => e = .returned (.bool true) ∧ W = w' := fun W => (fits_any n W).mono fun e w' h => ⟨by rw [h.1, decide_eq_true hf], h.2.symm⟩
        have HF : Hid (fitsN n) := hf
        have hw : IntKind.u32.wrap n = n := Go.IntWalk.u32_in _ (by have h1 := hf.1; have h2 := hf.2; omega)
        have cc : Hid (j + 1 ≤ maxLen ∧ (j + 1) * 24 ≤ 140737488355328) := hidD (by have := G.out; have := HXN.out.2.2.2; simp only [maxLen]; omega)
        have HW : Hid (wrap64 ((j : Int) + 1) = ((j + 1 : Nat) : Int)) := hidD (w64_in _ (by have := G.out; have := HXN.out.2.2.2; omega))
        clear hf
        go_wp2_with (go_at_call 69; (with_reducible refine (h69 _).mono ?_); rintro e w4 ⟨rfl, rfl⟩)
        go_region_law (first
          | ((refine step_append (by rfl) _ _ 35 35 (by rfl) ((D.out.2.2.1.turned (Turned.alloc (fun _ => False) wr (.cells #[.string (bs x), .int .u32 n] 54)) fun _ _ q => q).drew) Tryz.underlying35 info54 rfl (by decide) (by rfl) (.slice (some ⟨wr.heap.size, 0, none⟩) 1 1) (by rfl) ((sl_two wr.drew x n (S := fun _ => True) trivial).src Tryz.underlying35 (tcells_one _)) cc.out.1 cc.out.2 ?_
              intro v9 w9 q1 t1
              obtain ⟨a5, c5, hv5, -, -⟩ := q1.value
              subst hv5
              have Q1 := hid_two q1 t1
              have tn : Turned S4 wr w9 := ((Turned.alloc S4 wr (.cells #[.string (bs x), .int .u32 n] 54)).draw).trans t1 fun _ _ q => q
              have b9' := (tn.block _ m4 fun q => by have := D.out.2.2.2.1 _ q; omega).trans D.out.1
              have k5 := cell_of b9' 4 _ rfl
              have f5 := free_of b9' 4
              have m5 := lt_of_block b9'
              clear q1 t1 tn b9')))
        all_goals go_wp2
        all_goals
          go_roundg (gk - 1)
          case measure => have := G.out; omega
          case rel => exact lt_step (wr := wr.drew) HL.out G.out.2.1 G.out.2.2 C.out.1 C.out.2 HF.out D.out.1 D.out.2.1 HXN.out.2.2.1 D.out.2.2.2.1 D.out.2.2.2.2.draw Q1.out.1 Q1.out.2 (by simp [HW.out]) (by have := G.out; omega)
      · have h69 : ∀ W, Calls Tryz.prog 69 #[.int .i64 n] W fun e w' => e = .returned (.bool false) ∧ W = w' := fun W => (fits_any n W).mono fun e w' h => ⟨by rw [h.1, decide_eq_false hf], h.2.symm⟩
        have HV : Hid (RT = none) := hidD (by
          rw [HRT.out]
          refine treeOf_bad (j := j + 1) HL.out ?_
          rw [treeOf_step HL.out G.out.2.1 C.out.1 C.out.2, if_neg hf])
        have EL := Ele.of D.out.2.1
        have k0 := EL.c0; have k1 := EL.c1; have k2 := EL.c2; have k3 := EL.c3; have k4 := EL.c4; have k5 := EL.c5; have k6 := EL.c6; have k7 := EL.c7; have k8 := EL.c8; have k9 := EL.c9; have k10 := EL.c10; have g0 := EL.f0; have g1 := EL.f1; have g2 := EL.f2; have g3 := EL.f3; have g4 := EL.f4; have g5 := EL.f5; have g6 := EL.f6; have g7 := EL.f7; have g8 := EL.f8; have g9 := EL.f9; have g10 := EL.f10; have j0 := EL.lt
        clear EL hf
        go_wp2_with (go_at_call 69; (with_reducible refine (h69 _).mono ?_); rintro e w4 ⟨rfl, rfl⟩)
        obtain ⟨z1, z2⟩ := eleven_put wr b0 40 (.int .i64 0) (.slice none 0 0) (.string ⟨#[]⟩) (.string ⟨#[]⟩) (.slice none 0 0) (.int .i64 0) (.int .i64 0) (.int .i64 0) (.int .i64 0) (.slice none 0 0) (.string ⟨#[]⟩) (.int .i64 0) (.slice none 0 0) (.string ⟨#[]⟩) (.string ⟨#[]⟩) (.slice none 0 0) (.int .i64 0) (.int .i64 0) (.int .i64 0) (.int .i64 0) (.slice none 0 0) (.string ⟨#[]⟩) D.out.2.1
        rw [HV.out]
        refine line_ret rfl rfl z1 ?_
        exact ⟨⟨_, _, _, _, _, _, _, _, _, _, _, _, _, _, _, _, _, rfl⟩, (HT.out.2.1.trans D.out.2.2.2.2 fun _ _ q => q).comp z2 fun i hi q => q.elim id fun q => by have := HT.out.2.2; omega⟩
    · have hjl : j = ns.length := by have := G.out; omega
      have HV : Hid (RT = some t) := hidD (by
        have q := G.out.2.1
        rw [List.take_of_length_le (by omega), List.take_of_length_le (by have := HL.out; omega)] at q
        rw [HRT.out, q])
      have HTL : Hid (t.length = j) := G.out.2.2
      have hd1 : decide ((j : Int) < (ns.length : Int)) = false := by simp; omega
      clear hjl
      go_upto_region 28 with (fail)
      refine wp_region_lit ?_
      refine wpList_load_row rfl 40 _ rfl W.heap.size rfl 40 #[.int .i64 2, .slice none 0 0, .string ⟨#[]⟩, .string ⟨#[]⟩, .slice a4 j c4, .int .i64 0, .int .i64 0, .int .i64 0, .int .i64 0, .slice none 0 0, .string ⟨#[]⟩] (0, 0) _ D.out.1 Tryz.underlying40 rfl info40 ?_
      refine wpList_store_row rfl 40 _ _ rfl b0 #[.int .i64 2, .slice none 0 0, .string ⟨#[]⟩, .string ⟨#[]⟩, .slice a4 j c4, .int .i64 0, .int .i64 0, .int .i64 0, .int .i64 0, .slice none 0 0, .string ⟨#[]⟩] zero11 40 rfl rfl D.out.2.1 info40 rfl (by simp [Value.oneCell']) ?_
      intro wE hE htE _
      go_wp2
      rw [HV.out]
      refine line_ret rfl rfl hE ?_
      have e := HTL.out
      subst e
      exact ⟨⟨_, rfl, none, 0, a4, c4, none, 0, rfl, Sl.nil _ _ _ _, (D.out.2.2.1.turned htE fun i q z => by have := D.out.2.2.2.1 i q; have := HXN.out.2.2.1; omega).widen fun i q => by have := D.out.2.2.2.1 i q; have := HXN.out.2.2.1; have := HT.out.2.2; omega, Sl.nil _ _ _ _⟩, (HT.out.2.1.trans D.out.2.2.2.2 fun _ _ q => q).comp htE fun i hi q => q.elim id fun q => by have := HT.out.2.2; omega⟩

end Go.Proofs.YteblabpplaaddaaGreatDoor
