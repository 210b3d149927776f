/- The document's reading: a question's command: the walk of asked (printed by gen_dl.py). -/
import Derived.Test.YteblabpplaaddaaGreatDoorDw
set_option linter.unusedVariables false
set_option linter.unusedSimpArgs false
namespace Go.Proofs.YteblabpplaaddaaGreatDoor
open Go.RowKit Go.Mine Go.Mine.Sc

set_option maxRecDepth 100000 in
theorem asked_ret {R : Ending → World → Prop} {tmps : Array Value} {W : World} {q : Nat} {y0 y1 y2 y3 y4 y5 y6 y7 y8 y9 y10 : Value} (ht : tmps[6]?.getD undef = pt q) (hb : W.heap[q]? = some (.cells #[y0, y1, y2, y3, y4, y5, y6, y7, y8, y9, y10] 40 (0, 0)))
    (hR : R (.returned (.agg #[y0, y1, y2, y3, y4, y5, y6, y7, y8, y9, y10])) W) : bodyPost Tryz.prog Tryz.f76 R .ret { tmps := tmps, defers := [] } W := by
  have r0 := cell_of hb 0 _ rfl
  have r1 := cell_of hb 1 _ rfl
  have r2 := cell_of hb 2 _ rfl
  have r3 := cell_of hb 3 _ rfl
  have r4 := cell_of hb 4 _ rfl
  have r5 := cell_of hb 5 _ rfl
  have r6 := cell_of hb 6 _ rfl
  have r7 := cell_of hb 7 _ rfl
  have r8 := cell_of hb 8 _ rfl
  have r9 := cell_of hb 9 _ rfl
  have r10 := cell_of hb 10 _ rfl
  clear hb
  simp only [List.getElem_toArray, List.getElem_cons_zero, List.getElem_cons_succ] at r0 r1 r2 r3 r4 r5 r6 r7 r8 r9 r10
  simp [bodyPost, results, Tryz.results76, go_sem, ht, r0, r1, r2, r3, r4, r5, r6, r7, r8, r9, r10]
  exact hR

def AskedPost (W : World) (S : Nat → Prop) (c : Cmd) (e : Ending) (w' : World) : Prop := (∃ cs, e = .returned (.agg cs) ∧ CmdV w' S c cs) ∧ Turned (fun _ => False) W w'

/-- a slice's first cells -/
theorem sl_at {W : World} {S : Nat → Prop} {e : TypeId} {a : Option Addr} {n cap : Nat} {xs : List Value} (h : Sl W S e 1 (.slice a n cap) xs n) (h0 : 0 < n) : ∃ g off, a = some ⟨g, off, none⟩ ∧ g < W.heap.size ∧ ∀ j, j < n → W.cell? ⟨g, off + j, none⟩ = xs[j]? := by
  obtain ⟨g, off, cap', hv, -, -, -, hc, -, hlt⟩ := h.opens h0
  injection hv with hv
  exact ⟨g, off, hv, hlt, fun j hj => hc j (by omega)⟩

set_option maxRecDepth 100000 in
set_option maxHeartbeats 2000000 in
theorem asked_ids (k : Int) (hk : k = 2 ∨ k = 5 ∨ k = 6) (ns : List Int) (W : World) (S : Nat → Prop) (a : Option Addr) (c : Nat) (b : Option Addr) (d : Nat) (h1 : Sl W S 3 1 (.slice a ns.length c) (icells ns) ns.length) :
    Calls Tryz.prog 76 #[.int .i64 k, .slice a ns.length c, .slice b 0 d] W (AskedPost W S (askedOf k ns [])) := by
  have H1 : Hid (Sl W S 3 1 (.slice a ns.length c) (icells ns) ns.length) := h1
  clear h1
  rcases hk with rfl | rfl | rfl
  · go_enter Tryz.func76, Tryz.ntmps76
    go_wp2
    have z1 : ((W.alloc (.cells #[.int .i64 12, .slice none 0 0, .string ⟨#[]⟩, .string ⟨#[]⟩, .slice none 0 0, .int .i64 2, .int .i64 0, .int .i64 0, .int .i64 0, .slice a ns.length c, .string ⟨#[]⟩] 40)).alloc (.cells #[.int .i64 2, .int .i64 0, .int .i64 0, .int .i64 0, .slice a ns.length c, .string ⟨#[]⟩] 37)).heap[W.heap.size]? = some (.cells #[.int .i64 12, .slice none 0 0, .string ⟨#[]⟩, .string ⟨#[]⟩, .slice none 0 0, .int .i64 2, .int .i64 0, .int .i64 0, .int .i64 0, .slice a ns.length c, .string ⟨#[]⟩] 40 (0, 0)) := Go.Mine.heap_alloc_old (heap_alloc_new W _)
    have tE : Turned (fun _ => False) W ((W.alloc (.cells #[.int .i64 12, .slice none 0 0, .string ⟨#[]⟩, .string ⟨#[]⟩, .slice none 0 0, .int .i64 2, .int .i64 0, .int .i64 0, .int .i64 0, .slice a ns.length c, .string ⟨#[]⟩] 40)).alloc (.cells #[.int .i64 2, .int .i64 0, .int .i64 0, .int .i64 0, .slice a ns.length c, .string ⟨#[]⟩] 37)) := ((Turned.refl _ W).new _).new _
    refine asked_ret rfl z1 ?_
    exact ⟨⟨_, rfl, none, 0, none, 0, a, c, rfl, Sl.nil _ _ _ _, Sl.nil _ _ _ _, H1.out.turned tE fun _ _ q => q⟩, tE⟩
  · go_enter Tryz.func76, Tryz.ntmps76
    go_wp2
    have z1 : ((W.alloc (.cells #[.int .i64 12, .slice none 0 0, .string ⟨#[]⟩, .string ⟨#[]⟩, .slice none 0 0, .int .i64 5, .int .i64 0, .int .i64 0, .int .i64 0, .slice a ns.length c, .string ⟨#[]⟩] 40)).alloc (.cells #[.int .i64 5, .int .i64 0, .int .i64 0, .int .i64 0, .slice a ns.length c, .string ⟨#[]⟩] 37)).heap[W.heap.size]? = some (.cells #[.int .i64 12, .slice none 0 0, .string ⟨#[]⟩, .string ⟨#[]⟩, .slice none 0 0, .int .i64 5, .int .i64 0, .int .i64 0, .int .i64 0, .slice a ns.length c, .string ⟨#[]⟩] 40 (0, 0)) := Go.Mine.heap_alloc_old (heap_alloc_new W _)
    have tE : Turned (fun _ => False) W ((W.alloc (.cells #[.int .i64 12, .slice none 0 0, .string ⟨#[]⟩, .string ⟨#[]⟩, .slice none 0 0, .int .i64 5, .int .i64 0, .int .i64 0, .int .i64 0, .slice a ns.length c, .string ⟨#[]⟩] 40)).alloc (.cells #[.int .i64 5, .int .i64 0, .int .i64 0, .int .i64 0, .slice a ns.length c, .string ⟨#[]⟩] 37)) := ((Turned.refl _ W).new _).new _
    refine asked_ret rfl z1 ?_
    exact ⟨⟨_, rfl, none, 0, none, 0, a, c, rfl, Sl.nil _ _ _ _, Sl.nil _ _ _ _, H1.out.turned tE fun _ _ q => q⟩, tE⟩
  · go_enter Tryz.func76, Tryz.ntmps76
    go_wp2
    have z1 : ((W.alloc (.cells #[.int .i64 12, .slice none 0 0, .string ⟨#[]⟩, .string ⟨#[]⟩, .slice none 0 0, .int .i64 6, .int .i64 0, .int .i64 0, .int .i64 0, .slice a ns.length c, .string ⟨#[]⟩] 40)).alloc (.cells #[.int .i64 6, .int .i64 0, .int .i64 0, .int .i64 0, .slice a ns.length c, .string ⟨#[]⟩] 37)).heap[W.heap.size]? = some (.cells #[.int .i64 12, .slice none 0 0, .string ⟨#[]⟩, .string ⟨#[]⟩, .slice none 0 0, .int .i64 6, .int .i64 0, .int .i64 0, .int .i64 0, .slice a ns.length c, .string ⟨#[]⟩] 40 (0, 0)) := Go.Mine.heap_alloc_old (heap_alloc_new W _)
    have tE : Turned (fun _ => False) W ((W.alloc (.cells #[.int .i64 12, .slice none 0 0, .string ⟨#[]⟩, .string ⟨#[]⟩, .slice none 0 0, .int .i64 6, .int .i64 0, .int .i64 0, .int .i64 0, .slice a ns.length c, .string ⟨#[]⟩] 40)).alloc (.cells #[.int .i64 6, .int .i64 0, .int .i64 0, .int .i64 0, .slice a ns.length c, .string ⟨#[]⟩] 37)) := ((Turned.refl _ W).new _).new _
    refine asked_ret rfl z1 ?_
    exact ⟨⟨_, rfl, none, 0, none, 0, a, c, rfl, Sl.nil _ _ _ _, Sl.nil _ _ _ _, H1.out.turned tE fun _ _ q => q⟩, tE⟩

set_option maxRecDepth 100000 in
set_option maxHeartbeats 2000000 in
theorem asked_1 (k : Int) (hk : k = 11 ∨ k = 12) (n0 : Int) (W : World) (S : Nat → Prop) (a : Option Addr) (c : Nat) (b : Option Addr) (d : Nat) (h1 : Sl W S 3 1 (.slice a 1 c) (icells [n0]) 1) :
    Calls Tryz.prog 76 #[.int .i64 k, .slice a 1 c, .slice b 0 d] W (AskedPost W S (askedOf k [n0] [])) := by
  obtain ⟨g, off, rfl, hlt, hcs⟩ := sl_at h1 (by decide)
  have q0 : W.cell? ⟨g, off, none⟩ = some (.int .i64 n0) := hcs 0 (by decide)
  clear hcs
  clear h1
  rcases hk with rfl | rfl
  · go_enter Tryz.func76, Tryz.ntmps76
    go_wp2
    have z1 : ((W.alloc (.cells #[.int .i64 12, .slice none 0 0, .string ⟨#[]⟩, .string ⟨#[]⟩, .slice none 0 0, .int .i64 11, .int .i64 n0, .int .i64 0, .int .i64 0, .slice none 0 0, .string ⟨#[]⟩] 40)).alloc (.cells #[.int .i64 11, .int .i64 n0, .int .i64 0, .int .i64 0, .slice none 0 0, .string ⟨#[]⟩] 37)).heap[W.heap.size]? = some (.cells #[.int .i64 12, .slice none 0 0, .string ⟨#[]⟩, .string ⟨#[]⟩, .slice none 0 0, .int .i64 11, .int .i64 n0, .int .i64 0, .int .i64 0, .slice none 0 0, .string ⟨#[]⟩] 40 (0, 0)) := Go.Mine.heap_alloc_old (heap_alloc_new W _)
    have tE : Turned (fun _ => False) W ((W.alloc (.cells #[.int .i64 12, .slice none 0 0, .string ⟨#[]⟩, .string ⟨#[]⟩, .slice none 0 0, .int .i64 11, .int .i64 n0, .int .i64 0, .int .i64 0, .slice none 0 0, .string ⟨#[]⟩] 40)).alloc (.cells #[.int .i64 11, .int .i64 n0, .int .i64 0, .int .i64 0, .slice none 0 0, .string ⟨#[]⟩] 37)) := ((Turned.refl _ W).new _).new _
    refine asked_ret rfl z1 ?_
    exact ⟨⟨_, rfl, none, 0, none, 0, none, 0, rfl, Sl.nil _ _ _ _, Sl.nil _ _ _ _, Sl.nil _ _ _ _⟩, tE⟩
  · go_enter Tryz.func76, Tryz.ntmps76
    go_wp2
    have z1 : ((W.alloc (.cells #[.int .i64 12, .slice none 0 0, .string ⟨#[]⟩, .string ⟨#[]⟩, .slice none 0 0, .int .i64 12, .int .i64 n0, .int .i64 0, .int .i64 0, .slice none 0 0, .string ⟨#[]⟩] 40)).alloc (.cells #[.int .i64 12, .int .i64 n0, .int .i64 0, .int .i64 0, .slice none 0 0, .string ⟨#[]⟩] 37)).heap[W.heap.size]? = some (.cells #[.int .i64 12, .slice none 0 0, .string ⟨#[]⟩, .string ⟨#[]⟩, .slice none 0 0, .int .i64 12, .int .i64 n0, .int .i64 0, .int .i64 0, .slice none 0 0, .string ⟨#[]⟩] 40 (0, 0)) := Go.Mine.heap_alloc_old (heap_alloc_new W _)
    have tE : Turned (fun _ => False) W ((W.alloc (.cells #[.int .i64 12, .slice none 0 0, .string ⟨#[]⟩, .string ⟨#[]⟩, .slice none 0 0, .int .i64 12, .int .i64 n0, .int .i64 0, .int .i64 0, .slice none 0 0, .string ⟨#[]⟩] 40)).alloc (.cells #[.int .i64 12, .int .i64 n0, .int .i64 0, .int .i64 0, .slice none 0 0, .string ⟨#[]⟩] 37)) := ((Turned.refl _ W).new _).new _
    refine asked_ret rfl z1 ?_
    exact ⟨⟨_, rfl, none, 0, none, 0, none, 0, rfl, Sl.nil _ _ _ _, Sl.nil _ _ _ _, Sl.nil _ _ _ _⟩, tE⟩

set_option maxRecDepth 100000 in
set_option maxHeartbeats 2000000 in
theorem asked_2 (k : Int) (hk : k = 1 ∨ k = 3 ∨ k = 4) (n0 n1 : Int) (W : World) (S : Nat → Prop) (a : Option Addr) (c : Nat) (b : Option Addr) (d : Nat) (h1 : Sl W S 3 1 (.slice a 2 c) (icells [n0, n1]) 2) :
    Calls Tryz.prog 76 #[.int .i64 k, .slice a 2 c, .slice b 0 d] W (AskedPost W S (askedOf k [n0, n1] [])) := by
  obtain ⟨g, off, rfl, hlt, hcs⟩ := sl_at h1 (by decide)
  have q0 : W.cell? ⟨g, off, none⟩ = some (.int .i64 n0) := hcs 0 (by decide)
  have q1 : W.cell? ⟨g, off + 1, none⟩ = some (.int .i64 n1) := hcs 1 (by decide)
  clear hcs
  clear h1
  rcases hk with rfl | rfl | rfl
  · go_enter Tryz.func76, Tryz.ntmps76
    go_wp2
    have z1 : ((W.alloc (.cells #[.int .i64 12, .slice none 0 0, .string ⟨#[]⟩, .string ⟨#[]⟩, .slice none 0 0, .int .i64 1, .int .i64 n0, .int .i64 n1, .int .i64 0, .slice none 0 0, .string ⟨#[]⟩] 40)).alloc (.cells #[.int .i64 1, .int .i64 n0, .int .i64 n1, .int .i64 0, .slice none 0 0, .string ⟨#[]⟩] 37)).heap[W.heap.size]? = some (.cells #[.int .i64 12, .slice none 0 0, .string ⟨#[]⟩, .string ⟨#[]⟩, .slice none 0 0, .int .i64 1, .int .i64 n0, .int .i64 n1, .int .i64 0, .slice none 0 0, .string ⟨#[]⟩] 40 (0, 0)) := Go.Mine.heap_alloc_old (heap_alloc_new W _)
    have tE : Turned (fun _ => False) W ((W.alloc (.cells #[.int .i64 12, .slice none 0 0, .string ⟨#[]⟩, .string ⟨#[]⟩, .slice none 0 0, .int .i64 1, .int .i64 n0, .int .i64 n1, .int .i64 0, .slice none 0 0, .string ⟨#[]⟩] 40)).alloc (.cells #[.int .i64 1, .int .i64 n0, .int .i64 n1, .int .i64 0, .slice none 0 0, .string ⟨#[]⟩] 37)) := ((Turned.refl _ W).new _).new _
    refine asked_ret rfl z1 ?_
    exact ⟨⟨_, rfl, none, 0, none, 0, none, 0, rfl, Sl.nil _ _ _ _, Sl.nil _ _ _ _, Sl.nil _ _ _ _⟩, tE⟩
  · go_enter Tryz.func76, Tryz.ntmps76
    go_wp2
    have z1 : ((W.alloc (.cells #[.int .i64 12, .slice none 0 0, .string ⟨#[]⟩, .string ⟨#[]⟩, .slice none 0 0, .int .i64 3, .int .i64 n0, .int .i64 n1, .int .i64 0, .slice none 0 0, .string ⟨#[]⟩] 40)).alloc (.cells #[.int .i64 3, .int .i64 n0, .int .i64 n1, .int .i64 0, .slice none 0 0, .string ⟨#[]⟩] 37)).heap[W.heap.size]? = some (.cells #[.int .i64 12, .slice none 0 0, .string ⟨#[]⟩, .string ⟨#[]⟩, .slice none 0 0, .int .i64 3, .int .i64 n0, .int .i64 n1, .int .i64 0, .slice none 0 0, .string ⟨#[]⟩] 40 (0, 0)) := Go.Mine.heap_alloc_old (heap_alloc_new W _)
    have tE : Turned (fun _ => False) W ((W.alloc (.cells #[.int .i64 12, .slice none 0 0, .string ⟨#[]⟩, .string ⟨#[]⟩, .slice none 0 0, .int .i64 3, .int .i64 n0, .int .i64 n1, .int .i64 0, .slice none 0 0, .string ⟨#[]⟩] 40)).alloc (.cells #[.int .i64 3, .int .i64 n0, .int .i64 n1, .int .i64 0, .slice none 0 0, .string ⟨#[]⟩] 37)) := ((Turned.refl _ W).new _).new _
    refine asked_ret rfl z1 ?_
    exact ⟨⟨_, rfl, none, 0, none, 0, none, 0, rfl, Sl.nil _ _ _ _, Sl.nil _ _ _ _, Sl.nil _ _ _ _⟩, tE⟩
  · go_enter Tryz.func76, Tryz.ntmps76
    go_wp2
    have z1 : ((W.alloc (.cells #[.int .i64 12, .slice none 0 0, .string ⟨#[]⟩, .string ⟨#[]⟩, .slice none 0 0, .int .i64 4, .int .i64 n0, .int .i64 n1, .int .i64 0, .slice none 0 0, .string ⟨#[]⟩] 40)).alloc (.cells #[.int .i64 4, .int .i64 n0, .int .i64 n1, .int .i64 0, .slice none 0 0, .string ⟨#[]⟩] 37)).heap[W.heap.size]? = some (.cells #[.int .i64 12, .slice none 0 0, .string ⟨#[]⟩, .string ⟨#[]⟩, .slice none 0 0, .int .i64 4, .int .i64 n0, .int .i64 n1, .int .i64 0, .slice none 0 0, .string ⟨#[]⟩] 40 (0, 0)) := Go.Mine.heap_alloc_old (heap_alloc_new W _)
    have tE : Turned (fun _ => False) W ((W.alloc (.cells #[.int .i64 12, .slice none 0 0, .string ⟨#[]⟩, .string ⟨#[]⟩, .slice none 0 0, .int .i64 4, .int .i64 n0, .int .i64 n1, .int .i64 0, .slice none 0 0, .string ⟨#[]⟩] 40)).alloc (.cells #[.int .i64 4, .int .i64 n0, .int .i64 n1, .int .i64 0, .slice none 0 0, .string ⟨#[]⟩] 37)) := ((Turned.refl _ W).new _).new _
    refine asked_ret rfl z1 ?_
    exact ⟨⟨_, rfl, none, 0, none, 0, none, 0, rfl, Sl.nil _ _ _ _, Sl.nil _ _ _ _, Sl.nil _ _ _ _⟩, tE⟩

set_option maxRecDepth 100000 in
set_option maxHeartbeats 2000000 in
theorem asked_3 (k : Int) (hk : k = 9 ∨ k = 10) (n0 n1 n2 : Int) (W : World) (S : Nat → Prop) (a : Option Addr) (c : Nat) (b : Option Addr) (d : Nat) (h1 : Sl W S 3 1 (.slice a 3 c) (icells [n0, n1, n2]) 3) :
    Calls Tryz.prog 76 #[.int .i64 k, .slice a 3 c, .slice b 0 d] W (AskedPost W S (askedOf k [n0, n1, n2] [])) := by
  obtain ⟨g, off, rfl, hlt, hcs⟩ := sl_at h1 (by decide)
  have q0 : W.cell? ⟨g, off, none⟩ = some (.int .i64 n0) := hcs 0 (by decide)
  have q1 : W.cell? ⟨g, off + 1, none⟩ = some (.int .i64 n1) := hcs 1 (by decide)
  have q2 : W.cell? ⟨g, off + 2, none⟩ = some (.int .i64 n2) := hcs 2 (by decide)
  clear hcs
  clear h1
  rcases hk with rfl | rfl
  · go_enter Tryz.func76, Tryz.ntmps76
    go_wp2
    have z1 : ((W.alloc (.cells #[.int .i64 12, .slice none 0 0, .string ⟨#[]⟩, .string ⟨#[]⟩, .slice none 0 0, .int .i64 9, .int .i64 n0, .int .i64 n1, .int .i64 n2, .slice none 0 0, .string ⟨#[]⟩] 40)).alloc (.cells #[.int .i64 9, .int .i64 n0, .int .i64 n1, .int .i64 n2, .slice none 0 0, .string ⟨#[]⟩] 37)).heap[W.heap.size]? = some (.cells #[.int .i64 12, .slice none 0 0, .string ⟨#[]⟩, .string ⟨#[]⟩, .slice none 0 0, .int .i64 9, .int .i64 n0, .int .i64 n1, .int .i64 n2, .slice none 0 0, .string ⟨#[]⟩] 40 (0, 0)) := Go.Mine.heap_alloc_old (heap_alloc_new W _)
    have tE : Turned (fun _ => False) W ((W.alloc (.cells #[.int .i64 12, .slice none 0 0, .string ⟨#[]⟩, .string ⟨#[]⟩, .slice none 0 0, .int .i64 9, .int .i64 n0, .int .i64 n1, .int .i64 n2, .slice none 0 0, .string ⟨#[]⟩] 40)).alloc (.cells #[.int .i64 9, .int .i64 n0, .int .i64 n1, .int .i64 n2, .slice none 0 0, .string ⟨#[]⟩] 37)) := ((Turned.refl _ W).new _).new _
    refine asked_ret rfl z1 ?_
    exact ⟨⟨_, rfl, none, 0, none, 0, none, 0, rfl, Sl.nil _ _ _ _, Sl.nil _ _ _ _, Sl.nil _ _ _ _⟩, tE⟩
  · go_enter Tryz.func76, Tryz.ntmps76
    go_wp2
    have z1 : ((W.alloc (.cells #[.int .i64 12, .slice none 0 0, .string ⟨#[]⟩, .string ⟨#[]⟩, .slice none 0 0, .int .i64 10, .int .i64 n0, .int .i64 n1, .int .i64 n2, .slice none 0 0, .string ⟨#[]⟩] 40)).alloc (.cells #[.int .i64 10, .int .i64 n0, .int .i64 n1, .int .i64 n2, .slice none 0 0, .string ⟨#[]⟩] 37)).heap[W.heap.size]? = some (.cells #[.int .i64 12, .slice none 0 0, .string ⟨#[]⟩, .string ⟨#[]⟩, .slice none 0 0, .int .i64 10, .int .i64 n0, .int .i64 n1, .int .i64 n2, .slice none 0 0, .string ⟨#[]⟩] 40 (0, 0)) := Go.Mine.heap_alloc_old (heap_alloc_new W _)
    have tE : Turned (fun _ => False) W ((W.alloc (.cells #[.int .i64 12, .slice none 0 0, .string ⟨#[]⟩, .string ⟨#[]⟩, .slice none 0 0, .int .i64 10, .int .i64 n0, .int .i64 n1, .int .i64 n2, .slice none 0 0, .string ⟨#[]⟩] 40)).alloc (.cells #[.int .i64 10, .int .i64 n0, .int .i64 n1, .int .i64 n2, .slice none 0 0, .string ⟨#[]⟩] 37)) := ((Turned.refl _ W).new _).new _
    refine asked_ret rfl z1 ?_
    exact ⟨⟨_, rfl, none, 0, none, 0, none, 0, rfl, Sl.nil _ _ _ _, Sl.nil _ _ _ _, Sl.nil _ _ _ _⟩, tE⟩

set_option maxRecDepth 100000 in
set_option maxHeartbeats 2000000 in
theorem asked_t (k : Int) (hk : k = 7 ∨ k = 8) (n0 : Int) (x : B) (W : World) (S : Nat → Prop) (a : Option Addr) (c : Nat) (b : Option Addr) (d : Nat) (h1 : Sl W S 3 1 (.slice a 1 c) (icells [n0]) 1) (h2 : Sl W S 9 1 (.slice b 1 d) (scells [x]) 1) :
    Calls Tryz.prog 76 #[.int .i64 k, .slice a 1 c, .slice b 1 d] W (AskedPost W S (askedOf k [n0] [x])) := by
  obtain ⟨g, off, rfl, hlt, hcs⟩ := sl_at h1 (by decide)
  have q0 : W.cell? ⟨g, off, none⟩ = some (.int .i64 n0) := hcs 0 (by decide)
  clear hcs
  obtain ⟨g2, off2, rfl, hlt2, hcs2⟩ := sl_at h2 (by decide)
  have p0 : W.cell? ⟨g2, off2, none⟩ = some (.string (bs x)) := hcs2 0 (by decide)
  clear hcs2
  clear h1 h2
  generalize hxx : bs x = xx at *
  have HX : Hid (xx = bs x) := hxx.symm
  clear hxx
  rcases hk with rfl | rfl
  · go_enter Tryz.func76, Tryz.ntmps76
    go_wp2
    have z1 : ((W.alloc (.cells #[.int .i64 12, .slice none 0 0, .string ⟨#[]⟩, .string ⟨#[]⟩, .slice none 0 0, .int .i64 7, .int .i64 n0, .int .i64 0, .int .i64 0, .slice none 0 0, .string xx] 40)).alloc (.cells #[.int .i64 7, .int .i64 n0, .int .i64 0, .int .i64 0, .slice none 0 0, .string xx] 37)).heap[W.heap.size]? = some (.cells #[.int .i64 12, .slice none 0 0, .string ⟨#[]⟩, .string ⟨#[]⟩, .slice none 0 0, .int .i64 7, .int .i64 n0, .int .i64 0, .int .i64 0, .slice none 0 0, .string xx] 40 (0, 0)) := Go.Mine.heap_alloc_old (heap_alloc_new W _)
    have tE : Turned (fun _ => False) W ((W.alloc (.cells #[.int .i64 12, .slice none 0 0, .string ⟨#[]⟩, .string ⟨#[]⟩, .slice none 0 0, .int .i64 7, .int .i64 n0, .int .i64 0, .int .i64 0, .slice none 0 0, .string xx] 40)).alloc (.cells #[.int .i64 7, .int .i64 n0, .int .i64 0, .int .i64 0, .slice none 0 0, .string xx] 37)) := ((Turned.refl _ W).new _).new _
    refine asked_ret rfl z1 ?_
    have hx := HX.out
    subst hx
    exact ⟨⟨_, rfl, none, 0, none, 0, none, 0, rfl, Sl.nil _ _ _ _, Sl.nil _ _ _ _, Sl.nil _ _ _ _⟩, tE⟩
  · go_enter Tryz.func76, Tryz.ntmps76
    go_wp2
    have z1 : ((W.alloc (.cells #[.int .i64 12, .slice none 0 0, .string ⟨#[]⟩, .string ⟨#[]⟩, .slice none 0 0, .int .i64 8, .int .i64 n0, .int .i64 0, .int .i64 0, .slice none 0 0, .string xx] 40)).alloc (.cells #[.int .i64 8, .int .i64 n0, .int .i64 0, .int .i64 0, .slice none 0 0, .string xx] 37)).heap[W.heap.size]? = some (.cells #[.int .i64 12, .slice none 0 0, .string ⟨#[]⟩, .string ⟨#[]⟩, .slice none 0 0, .int .i64 8, .int .i64 n0, .int .i64 0, .int .i64 0, .slice none 0 0, .string xx] 40 (0, 0)) := Go.Mine.heap_alloc_old (heap_alloc_new W _)
    have tE : Turned (fun _ => False) W ((W.alloc (.cells #[.int .i64 12, .slice none 0 0, .string ⟨#[]⟩, .string ⟨#[]⟩, .slice none 0 0, .int .i64 8, .int .i64 n0, .int .i64 0, .int .i64 0, .slice none 0 0, .string xx] 40)).alloc (.cells #[.int .i64 8, .int .i64 n0, .int .i64 0, .int .i64 0, .slice none 0 0, .string xx] 37)) := ((Turned.refl _ W).new _).new _
    refine asked_ret rfl z1 ?_
    have hx := HX.out
    subst hx
    exact ⟨⟨_, rfl, none, 0, none, 0, none, 0, rfl, Sl.nil _ _ _ _, Sl.nil _ _ _ _, Sl.nil _ _ _ _⟩, tE⟩

end Go.Proofs.YteblabpplaaddaaGreatDoor
