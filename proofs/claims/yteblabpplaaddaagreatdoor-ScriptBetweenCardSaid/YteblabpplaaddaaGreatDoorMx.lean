/- Elements of a list; spoilt; Its, Same, same -/
import Derived.Test.YteblabpplaaddaaGreatDoorSw
import Derived.Test.YteblabpplaaddaaGreatDoorSm
import Derived.Test.YteblabpplaaddaaGreatDoorDm
set_option linter.unusedVariables false
set_option linter.unusedSimpArgs false
namespace Go.Proofs.YteblabpplaaddaaGreatDoor
open Go.RowKit Go.Mine Go.Mine.Sc

theorem CmdsV.at {w : World} {S : Nat → Prop} : ∀ {l : List Cmd} {xs : List Value}, CmdsV w S l xs → ∀ j c, l[j]? = some c → ∃ cs : Array Value, CmdV w S c cs ∧ ∀ i, i < 11 → xs[j * 11 + i]? = cs[i]?
  | [], _, _, j, c, h => by simp at h
  | c0 :: l, _, ⟨cs, rest, e, h1, h2⟩, j, c, h => by
    subst e
    have hs : cs.toList.length = 11 := by rw [Array.length_toList]; exact h1.size
    cases j with
    | zero =>
      simp only [List.getElem?_cons_zero, Option.some.injEq] at h
      subst h
      exact ⟨cs, h1, fun i hi => by rw [Nat.zero_mul, Nat.zero_add, List.getElem?_append_left (by omega), Array.getElem?_toList]⟩
    | succ j =>
      obtain ⟨cs', h3, h4⟩ := h2.at j c (by simpa using h)
      exact ⟨cs', h3, fun i hi => by rw [← h4 i hi, List.getElem?_append_right (by omega)]; congr 1; omega⟩

/-- an element's cells in its row -/
theorem CmdsAt.elem {w : World} {S : Nat → Prop} {e : TypeId} {a : Option Addr} {n cap : Nat} {l : List Cmd} (h : CmdsAt w S e (.slice a n cap) l) {j : Nat} {c : Cmd} (hc : l[j]? = some c) :
    ∃ g off cs, a = some ⟨g, off, none⟩ ∧ S g ∧ g < w.heap.size ∧ CmdV w (fun b => S b ∧ b ≠ g) c cs ∧ ∀ i, i < 11 → w.cell? ⟨g, off + j * 11 + i, none⟩ = cs[i]? := by
  obtain ⟨xs, R, h1, h2, h3⟩ := h
  have hj : j < l.length := (List.getElem?_eq_some_iff.1 hc).1
  obtain ⟨g, off, cap', hv, hR, -, -, hcl, -, hlt⟩ := h2.opens (by omega)
  injection hv with e1 e2 e3
  obtain ⟨cs, hcs, hx⟩ := h3.at j c hc
  have hm : (j + 1) * 11 ≤ l.length * 11 := Nat.mul_le_mul_right _ hj
  refine ⟨g, off, cs, e1, h1 g hR, hlt, hcs.widen fun b q => ⟨q.1, fun z => q.2 (z ▸ hR)⟩, fun i hi => ?_⟩
  rw [Nat.add_assoc, hcl (j * 11 + i) (by omega), hx i hi]

/-- what spoilt needs of the lengths -/
def Small (l : List Cmd) : Prop := l.length ≤ 1024 ∧ ∀ c ∈ l, c.nums.length ≤ 1000000 ∧ c.tree.length ≤ 1000000 ∧ c.ask.ids.length ≤ 1000000

set_option maxRecDepth 100000 in
theorem spoilt_nil (a : Option Addr) (cap : Nat) (w : World) : Calls Tryz.prog 23 #[.slice a 0 cap] w fun e w' => e = .returned (.tuple #[]) ∧ w' = w := by
  go_enter Tryz.func23, Tryz.ntmps23
  go_wp2
  go_loopg [8] 0 (fun _ v8 wr => v8 = .int .i64 0 ∧ wr = w)
  case atStart => exact ⟨rfl, rfl⟩
  case round =>
    obtain ⟨rfl, rfl⟩ := hrel
    go_wp2
    simp [bodyPost, results, Tryz.results23, go_sem]

theorem spoilt_any (w : World) (S : Nat → Prop) (v : Value) (l : List Cmd) (h : CmdsAt w S 39 v l) (hs : Small l) : Calls Tryz.prog 23 #[v] w fun e w' => e = .returned (.tuple #[]) ∧ Like S w w' := by
  obtain ⟨a, cap, rfl⟩ := h.value
  by_cases h0 : l.length = 0
  · rw [h0]
    exact (spoilt_nil a cap w).mono fun e w' q => ⟨q.1, by rw [q.2]; exact Like.refl _ _⟩
  · obtain ⟨xs, R, h1, h2, h3⟩ := h
    have hlen := h2.1
    rcases h2.2 with ⟨hv, hn⟩ | ⟨g, off, cap', cur, hv, hR, hg, hnc, hcm, hcs, htake⟩
    · exact absurd hn h0
    · injection hv with e1 e2 e3
      subst e1
      refine spoilt_cons w S (fun b => S b ∧ ¬ R b) g off l.length cap cur hs.1 hg (h1 g hR) (fun b q => ⟨q.1, fun z => q.2 (z ▸ hR)⟩) fun j hj => ?_
      obtain ⟨c, hc⟩ : ∃ c, l[j]? = some c := ⟨_, List.getElem?_eq_getElem hj⟩
      obtain ⟨cs, hcv, hx⟩ := h3.at j c hc
      have hm : (j + 1) * 11 ≤ l.length * 11 := Nat.mul_le_mul_right _ hj
      have hcell : ∀ i, i < 11 → cur[off + j * 11 + i]? = cs[i]? := fun i hi => by
        rw [← hx i hi, ← htake, List.getElem?_take, if_pos (by omega), List.getElem?_drop, Array.getElem?_toList, Nat.add_assoc]
      obtain ⟨b1, n1, b4, n4, b9, n9, rfl, s1, s2, s3⟩ := hcv
      obtain ⟨p1, p2, p3⟩ := hs.2 c (List.mem_of_getElem? hc)
      exact ⟨c.kind, b1, _, n1, b4, _, n4, b9, _, n9, by have := hcell 0 (by decide); simpa using this, hcell 1 (by decide), hcell 4 (by decide), hcell 9 (by decide), ⟨p1, p2, p3⟩, ⟨_, s1⟩, ⟨_, s2⟩, ⟨_, s3⟩⟩

/-! ### Commands that are only read, wherever they lie -/
/-- a command as it lies: its eleven cells; its lists may lie anywhere -/
def CmdR (w : World) (S : Nat → Prop) (c : Cmd) (cs : Array Value) : Prop :=
  ∃ a1 k1 a4 k4 a9 k9, cs = #[.int .i64 c.kind, .slice a1 c.nums.length k1, .string (bs c.text), .string (bs c.more), .slice a4 c.tree.length k4, .int .i64 c.ask.kind, .int .i64 c.ask.a, .int .i64 c.ask.b, .int .i64 c.ask.limit, .slice a9 c.ask.ids.length k9, .string (bs c.ask.path)] ∧
    Rd w S 1 (.slice a1 c.nums.length k1) (icells c.nums) c.nums.length ∧ Rd w S 2 (.slice a4 c.tree.length k4) (tcells c.tree) c.tree.length ∧ Rd w S 1 (.slice a9 c.ask.ids.length k9) (icells c.ask.ids) c.ask.ids.length
theorem CmdR.turned {w w' : World} {S T : Nat → Prop} {c : Cmd} {cs : Array Value} (h : CmdR w S c cs) (ht : Turned T w w') (hS : ∀ b, S b → ¬ T b) : CmdR w' S c cs := by
  obtain ⟨a1, k1, a4, k4, a9, k9, h0, h1, h2, h3⟩ := h
  exact ⟨a1, k1, a4, k4, a9, k9, h0, h1.turned ht hS, h2.turned ht hS, h3.turned ht hS⟩
theorem CmdR.widen {w : World} {S T : Nat → Prop} {c : Cmd} {cs : Array Value} (h : CmdR w S c cs) (hS : ∀ b, S b → T b) : CmdR w T c cs := by
  obtain ⟨a1, k1, a4, k4, a9, k9, h0, h1, h2, h3⟩ := h
  exact ⟨a1, k1, a4, k4, a9, k9, h0, h1.widen hS, h2.widen hS, h3.widen hS⟩
theorem CmdV.r {w : World} {S : Nat → Prop} {c : Cmd} {cs : Array Value} (h : CmdV w S c cs) : CmdR w S c cs := by
  obtain ⟨a1, k1, a4, k4, a9, k9, h0, h1, h2, h3⟩ := h
  exact ⟨a1, k1, a4, k4, a9, k9, h0, h1.rd, h2.rd, h3.rd⟩
theorem CmdR.size {w : World} {S : Nat → Prop} {c : Cmd} {cs : Array Value} (h : CmdR w S c cs) : cs.size = 11 := by
  obtain ⟨a1, k1, a4, k4, a9, k9, rfl, -⟩ := h
  rfl
theorem CmdR.one {w : World} {S : Nat → Prop} {c : Cmd} {cs : Array Value} (h : CmdR w S c cs) : ∀ u ∈ cs.toList, u.oneCell' = true := by
  obtain ⟨a1, k1, a4, k4, a9, k9, rfl, -⟩ := h
  intro u hu
  simp only [List.mem_cons, List.not_mem_nil, or_false] at hu
  rcases hu with rfl | rfl | rfl | rfl | rfl | rfl | rfl | rfl | rfl | rfl | rfl <;> rfl
/-- commands, cell by cell -/
def CmdsX (w : World) (S : Nat → Prop) : List Cmd → List Value → Prop
  | [], xs => xs = []
  | c :: l, xs => ∃ (cs : Array Value) (rest : List Value), xs = cs.toList ++ rest ∧ CmdR w S c cs ∧ CmdsX w S l rest
theorem CmdsX.turned {w w' : World} {S T : Nat → Prop} (ht : Turned T w w') (hS : ∀ b, S b → ¬ T b) : ∀ {l : List Cmd} {xs : List Value}, CmdsX w S l xs → CmdsX w' S l xs
  | [], _, h => h
  | _ :: _, _, ⟨cs, rest, h1, h2, h3⟩ => ⟨cs, rest, h1, h2.turned ht hS, h3.turned ht hS⟩
theorem CmdsX.widen {w : World} {S T : Nat → Prop} (hS : ∀ b, S b → T b) : ∀ {l : List Cmd} {xs : List Value}, CmdsX w S l xs → CmdsX w T l xs
  | [], _, h => h
  | _ :: _, _, ⟨cs, rest, h1, h2, h3⟩ => ⟨cs, rest, h1, h2.widen hS, h3.widen hS⟩
theorem CmdsV.r {w : World} {S : Nat → Prop} : ∀ {l : List Cmd} {xs : List Value}, CmdsV w S l xs → CmdsX w S l xs
  | [], _, h => h
  | _ :: _, _, ⟨cs, rest, h1, h2, h3⟩ => ⟨cs, rest, h1, h2.r, h3.r⟩
theorem CmdsX.snoc {w : World} {S : Nat → Prop} {c : Cmd} {cs : Array Value} (hc : CmdR w S c cs) : ∀ {l : List Cmd} {xs : List Value}, CmdsX w S l xs → CmdsX w S (l ++ [c]) (xs ++ cs.toList)
  | [], _, h => by subst h; exact ⟨cs, [], by simp, hc, rfl⟩
  | _ :: _, _, ⟨ds, rest, h1, h2, h3⟩ => ⟨ds, rest ++ cs.toList, by rw [h1, List.append_assoc], h2, h3.snoc hc⟩
theorem CmdsX.at {w : World} {S : Nat → Prop} : ∀ {l : List Cmd} {xs : List Value}, CmdsX w S l xs → ∀ j c, l[j]? = some c → ∃ cs : Array Value, CmdR w S c cs ∧ ∀ i, i < 11 → xs[j * 11 + i]? = cs[i]?
  | [], _, _, j, c, h => by simp at h
  | c0 :: l, _, ⟨cs, rest, e, h1, h2⟩, j, c, h => by
    subst e
    have hs : cs.toList.length = 11 := by rw [Array.length_toList]; exact h1.size
    cases j with
    | zero =>
      simp only [List.getElem?_cons_zero, Option.some.injEq] at h
      subst h
      exact ⟨cs, h1, fun i hi => by rw [Nat.zero_mul, Nat.zero_add, List.getElem?_append_left (by omega), Array.getElem?_toList]⟩
    | succ j =>
      obtain ⟨cs', h3, h4⟩ := h2.at j c (by simpa using h)
      exact ⟨cs', h3, fun i hi => by rw [← h4 i hi, List.getElem?_append_right (by omega)]; congr 1; omega⟩
/-- a list of commands, wherever it lies -/
def CmdsR (w : World) (S : Nat → Prop) (v : Value) (l : List Cmd) : Prop := ∃ xs, Rd w S 11 v xs l.length ∧ CmdsX w S l xs
theorem CmdsR.turned {w w' : World} {S T : Nat → Prop} {v : Value} {l : List Cmd} (h : CmdsR w S v l) (ht : Turned T w w') (hS : ∀ b, S b → ¬ T b) : CmdsR w' S v l := by
  obtain ⟨xs, h1, h2⟩ := h
  exact ⟨xs, h1.turned ht hS, h2.turned ht hS⟩
theorem CmdsR.widen {w : World} {S T : Nat → Prop} {v : Value} {l : List Cmd} (h : CmdsR w S v l) (hS : ∀ b, S b → T b) : CmdsR w T v l := by
  obtain ⟨xs, h1, h2⟩ := h
  exact ⟨xs, h1.widen hS, h2.widen hS⟩
theorem CmdsAt.r {w : World} {S : Nat → Prop} {e : TypeId} {v : Value} {l : List Cmd} (h : CmdsAt w S e v l) : CmdsR w S v l := by
  obtain ⟨xs, R, h1, h2, h3⟩ := h
  exact ⟨xs, (h2.widen h1).rd, h3.r.widen fun b q => q.1⟩
theorem CmdsR.value {w : World} {S : Nat → Prop} {v : Value} {l : List Cmd} (h : CmdsR w S v l) : ∃ a cap, v = .slice a l.length cap ∧ l.length ≤ cap ∧ cap ≤ maxLen := by
  obtain ⟨xs, ⟨-, a, cap, hv, h1, h2, -⟩, -⟩ := h
  exact ⟨a, cap, hv, h1, h2⟩
theorem CmdsR.elem {w : World} {S : Nat → Prop} {a : Option Addr} {n cap : Nat} {l : List Cmd} (h : CmdsR w S (.slice a n cap) l) {j : Nat} {c : Cmd} (hc : l[j]? = some c) :
    ∃ g off cs, a = some ⟨g, off, none⟩ ∧ g < w.heap.size ∧ CmdR w S c cs ∧ ∀ i, i < 11 → w.cell? ⟨g, off + j * 11 + i, none⟩ = cs[i]? := by
  obtain ⟨xs, h1, h2⟩ := h
  have hj : j < l.length := (List.getElem?_eq_some_iff.1 hc).1
  have hn : n = l.length := by obtain ⟨-, a', cap', hv, -⟩ := h1; injection hv
  subst hn
  obtain ⟨g, off, hv, hlt, hcl⟩ := h1.opens (by omega)
  obtain ⟨cs, hcs, hx⟩ := h2.at j c hc
  have hm : (j + 1) * 11 ≤ l.length * 11 := Nat.mul_le_mul_right _ hj
  exact ⟨g, off, cs, hv, hlt, hcs, fun i hi => by rw [Nat.add_assoc, hcl (j * 11 + i) (by omega), hx i hi]⟩

end Go.Proofs.YteblabpplaaddaaGreatDoor

namespace Go.Proofs.YteblabpplaaddaaGreatDoor
open Go.RowKit Go.Mine Go.Mine.Sc

set_option maxRecDepth 100000 in
theorem its_ret {R : Ending → World → Prop} {tmps : Array Value} {W : World} {q : Nat} {y0 y1 y2 y3 y4 y5 y6 y7 y8 y9 y10 : Value} (ht : tmps[2]?.getD undef = pt q) (hb : W.heap[q]? = some (.cells #[y0, y1, y2, y3, y4, y5, y6, y7, y8, y9, y10] 40 (0, 0)))
    (hR : R (.returned (.agg #[y0, y1, y2, y3, y4, y5, y6, y7, y8, y9, y10])) W) : bodyPost Tryz.prog Tryz.f13 R .ret { tmps := tmps, defers := [] } W := by
  have r0 := cell_of hb 0 _ rfl
  have r1 := cell_of hb 1 _ rfl
  have r2 := cell_of hb 2 _ rfl
  have r3 := cell_of hb 3 _ rfl
  have r4 := cell_of hb 4 _ rfl
  have r5 := cell_of hb 5 _ rfl
  have r6 := cell_of hb 6 _ rfl
  have r7 := cell_of hb 7 _ rfl
  have r8 := cell_of hb 8 _ rfl
  have r9 := cell_of hb 9 _ rfl
  have r10 := cell_of hb 10 _ rfl
  clear hb
  simp only [List.getElem_toArray, List.getElem_cons_zero, List.getElem_cons_succ] at r0 r1 r2 r3 r4 r5 r6 r7 r8 r9 r10
  simp [bodyPost, results, Tryz.results13, go_sem, ht, r0, r1, r2, r3, r4, r5, r6, r7, r8, r9, r10]
  exact hR

set_option maxRecDepth 100000 in
set_option maxHeartbeats 4000000 in
theorem its_cmd (w : World) (S : Nat → Prop) (c : Cmd) (cs : Array Value) (h : CmdR w S c cs) : Calls Tryz.prog 13 #[.agg cs] w fun e w' => e = .returned (.agg cs) ∧ Turned (fun _ => False) w w' := by
  obtain ⟨a1, n1, a4, n4, a9, n9, rfl, -, -, -⟩ := h
  go_enter Tryz.func13, Tryz.ntmps13
  go_wp2
  refine its_ret rfl (by first | exact heap_alloc_new _ _ | (simpa using heap_alloc_new (w.alloc _) _)) ?_
  exact ⟨rfl, ((Turned.refl _ w).new _).new _⟩

set_option maxRecDepth 100000 in
set_option maxHeartbeats 8000000 in
theorem same_cmd (w : World) (S1 S2 : Nat → Prop) (c : Cmd) (cs ds : Array Value) (h1 : CmdR w S1 c cs) (h2 : CmdR w S2 c ds) : Calls Tryz.prog 31 #[.agg cs, .agg ds] w fun e w' => e = .returned (.bool true) ∧ Turned (fun _ => False) w w' := by
  obtain ⟨a1, n1, a4, n4, a9, n9, rfl, s1, s4, s9⟩ := h1
  obtain ⟨b1, m1, b4, m4, b9, m9, rfl, r1, r4, r9⟩ := h2
  have H1 : Hid (∀ W, Turned (fun _ => False) w W → Calls Tryz.prog 59 #[.slice a1 c.nums.length n1, .slice b1 c.nums.length m1] W fun e w' => e = .returned (.bool true) ∧ Turned (fun _ => False) W w') := fun W t => (sameList_any S1 S2 a1 b1 n1 m1 c.nums c.nums W (s1.turned t fun _ _ q => q) (r1.turned t fun _ _ q => q)).mono fun e w' q => ⟨by rw [q.1]; simp, q.2⟩
  have H4 : Hid (∀ W, Turned (fun _ => False) w W → Calls Tryz.prog 60 #[.slice a4 c.tree.length n4, .slice b4 c.tree.length m4] W fun e w' => e = .returned (.bool true) ∧ Turned (fun _ => False) W w') := fun W t => (sameTree_any S1 S2 a4 b4 n4 m4 c.tree c.tree W (s4.turned t fun _ _ q => q) (r4.turned t fun _ _ q => q)).mono fun e w' q => ⟨by rw [q.1]; simp, q.2⟩
  have H9 : Hid (∀ W, Turned (fun _ => False) w W → Calls Tryz.prog 59 #[.slice a9 c.ask.ids.length n9, .slice b9 c.ask.ids.length m9] W fun e w' => e = .returned (.bool true) ∧ Turned (fun _ => False) W w') := fun W t => (sameList_any S1 S2 a9 b9 n9 m9 c.ask.ids c.ask.ids W (s9.turned t fun _ _ q => q) (r9.turned t fun _ _ q => q)).mono fun e w' q => ⟨by rw [q.1]; simp, q.2⟩
  clear s1 s4 s9 r1 r4 r9
  generalize bs c.text = x2 at *
  generalize bs c.more = x3 at *
  generalize bs c.ask.path = x10 at *
  generalize c.nums.length = l1 at *
  generalize c.tree.length = l4 at *
  generalize c.ask.ids.length = l9 at *
  generalize c.kind = z0 at *
  generalize c.ask.kind = z5 at *
  generalize c.ask.a = z6 at *
  generalize c.ask.b = z7 at *
  generalize c.ask.limit = z8 at *
  go_enter Tryz.func31, Tryz.ntmps31
  go_upto_region 3 with (fail)
  obtain ⟨hb0, hb1, hb2, hb3, ht⟩ : ((((w.alloc (.cells #[.int .i64 z0, .slice a1 l1 n1, .string x2, .string x3, .slice a4 l4 n4, .int .i64 z5, .int .i64 z6, .int .i64 z7, .int .i64 z8, .slice a9 l9 n9, .string x10] 40)).alloc (.cells #[.int .i64 z0, .slice b1 l1 m1, .string x2, .string x3, .slice b4 l4 m4, .int .i64 z5, .int .i64 z6, .int .i64 z7, .int .i64 z8, .slice b9 l9 m9, .string x10] 40)).alloc (.cells #[.int .i64 z5, .int .i64 z6, .int .i64 z7, .int .i64 z8, .slice a9 l9 n9, .string x10] 37)).alloc (.cells #[.int .i64 z5, .int .i64 z6, .int .i64 z7, .int .i64 z8, .slice b9 l9 m9, .string x10] 37)).heap[w.heap.size]? = some (.cells #[.int .i64 z0, .slice a1 l1 n1, .string x2, .string x3, .slice a4 l4 n4, .int .i64 z5, .int .i64 z6, .int .i64 z7, .int .i64 z8, .slice a9 l9 n9, .string x10] 40 (0, 0)) ∧ ((((w.alloc (.cells #[.int .i64 z0, .slice a1 l1 n1, .string x2, .string x3, .slice a4 l4 n4, .int .i64 z5, .int .i64 z6, .int .i64 z7, .int .i64 z8, .slice a9 l9 n9, .string x10] 40)).alloc (.cells #[.int .i64 z0, .slice b1 l1 m1, .string x2, .string x3, .slice b4 l4 m4, .int .i64 z5, .int .i64 z6, .int .i64 z7, .int .i64 z8, .slice b9 l9 m9, .string x10] 40)).alloc (.cells #[.int .i64 z5, .int .i64 z6, .int .i64 z7, .int .i64 z8, .slice a9 l9 n9, .string x10] 37)).alloc (.cells #[.int .i64 z5, .int .i64 z6, .int .i64 z7, .int .i64 z8, .slice b9 l9 m9, .string x10] 37)).heap[w.heap.size + 1]? = some (.cells #[.int .i64 z0, .slice b1 l1 m1, .string x2, .string x3, .slice b4 l4 m4, .int .i64 z5, .int .i64 z6, .int .i64 z7, .int .i64 z8, .slice b9 l9 m9, .string x10] 40 (0, 0)) ∧ ((((w.alloc (.cells #[.int .i64 z0, .slice a1 l1 n1, .string x2, .string x3, .slice a4 l4 n4, .int .i64 z5, .int .i64 z6, .int .i64 z7, .int .i64 z8, .slice a9 l9 n9, .string x10] 40)).alloc (.cells #[.int .i64 z0, .slice b1 l1 m1, .string x2, .string x3, .slice b4 l4 m4, .int .i64 z5, .int .i64 z6, .int .i64 z7, .int .i64 z8, .slice b9 l9 m9, .string x10] 40)).alloc (.cells #[.int .i64 z5, .int .i64 z6, .int .i64 z7, .int .i64 z8, .slice a9 l9 n9, .string x10] 37)).alloc (.cells #[.int .i64 z5, .int .i64 z6, .int .i64 z7, .int .i64 z8, .slice b9 l9 m9, .string x10] 37)).heap[w.heap.size + 2]? = some (.cells #[.int .i64 z5, .int .i64 z6, .int .i64 z7, .int .i64 z8, .slice a9 l9 n9, .string x10] 37 (0, 0)) ∧ ((((w.alloc (.cells #[.int .i64 z0, .slice a1 l1 n1, .string x2, .string x3, .slice a4 l4 n4, .int .i64 z5, .int .i64 z6, .int .i64 z7, .int .i64 z8, .slice a9 l9 n9, .string x10] 40)).alloc (.cells #[.int .i64 z0, .slice b1 l1 m1, .string x2, .string x3, .slice b4 l4 m4, .int .i64 z5, .int .i64 z6, .int .i64 z7, .int .i64 z8, .slice b9 l9 m9, .string x10] 40)).alloc (.cells #[.int .i64 z5, .int .i64 z6, .int .i64 z7, .int .i64 z8, .slice a9 l9 n9, .string x10] 37)).alloc (.cells #[.int .i64 z5, .int .i64 z6, .int .i64 z7, .int .i64 z8, .slice b9 l9 m9, .string x10] 37)).heap[w.heap.size + 3]? = some (.cells #[.int .i64 z5, .int .i64 z6, .int .i64 z7, .int .i64 z8, .slice b9 l9 m9, .string x10] 37 (0, 0)) ∧ Turned (fun _ => False) w ((((w.alloc (.cells #[.int .i64 z0, .slice a1 l1 n1, .string x2, .string x3, .slice a4 l4 n4, .int .i64 z5, .int .i64 z6, .int .i64 z7, .int .i64 z8, .slice a9 l9 n9, .string x10] 40)).alloc (.cells #[.int .i64 z0, .slice b1 l1 m1, .string x2, .string x3, .slice b4 l4 m4, .int .i64 z5, .int .i64 z6, .int .i64 z7, .int .i64 z8, .slice b9 l9 m9, .string x10] 40)).alloc (.cells #[.int .i64 z5, .int .i64 z6, .int .i64 z7, .int .i64 z8, .slice a9 l9 n9, .string x10] 37)).alloc (.cells #[.int .i64 z5, .int .i64 z6, .int .i64 z7, .int .i64 z8, .slice b9 l9 m9, .string x10] 37)) := by
    refine ⟨Go.Mine.heap_alloc_old (Go.Mine.heap_alloc_old (Go.Mine.heap_alloc_old (heap_alloc_new w _))), Go.Mine.heap_alloc_old (Go.Mine.heap_alloc_old (by simpa using heap_alloc_new (w.alloc (.cells #[.int .i64 z0, .slice a1 l1 n1, .string x2, .string x3, .slice a4 l4 n4, .int .i64 z5, .int .i64 z6, .int .i64 z7, .int .i64 z8, .slice a9 l9 n9, .string x10] 40)) (.cells #[.int .i64 z0, .slice b1 l1 m1, .string x2, .string x3, .slice b4 l4 m4, .int .i64 z5, .int .i64 z6, .int .i64 z7, .int .i64 z8, .slice b9 l9 m9, .string x10] 40))), Go.Mine.heap_alloc_old (by simpa using heap_alloc_new ((w.alloc (.cells #[.int .i64 z0, .slice a1 l1 n1, .string x2, .string x3, .slice a4 l4 n4, .int .i64 z5, .int .i64 z6, .int .i64 z7, .int .i64 z8, .slice a9 l9 n9, .string x10] 40)).alloc (.cells #[.int .i64 z0, .slice b1 l1 m1, .string x2, .string x3, .slice b4 l4 m4, .int .i64 z5, .int .i64 z6, .int .i64 z7, .int .i64 z8, .slice b9 l9 m9, .string x10] 40)) (.cells #[.int .i64 z5, .int .i64 z6, .int .i64 z7, .int .i64 z8, .slice a9 l9 n9, .string x10] 37)), by simpa using heap_alloc_new (((w.alloc (.cells #[.int .i64 z0, .slice a1 l1 n1, .string x2, .string x3, .slice a4 l4 n4, .int .i64 z5, .int .i64 z6, .int .i64 z7, .int .i64 z8, .slice a9 l9 n9, .string x10] 40)).alloc (.cells #[.int .i64 z0, .slice b1 l1 m1, .string x2, .string x3, .slice b4 l4 m4, .int .i64 z5, .int .i64 z6, .int .i64 z7, .int .i64 z8, .slice b9 l9 m9, .string x10] 40)).alloc (.cells #[.int .i64 z5, .int .i64 z6, .int .i64 z7, .int .i64 z8, .slice a9 l9 n9, .string x10] 37)) (.cells #[.int .i64 z5, .int .i64 z6, .int .i64 z7, .int .i64 z8, .slice b9 l9 m9, .string x10] 37), ((((Turned.refl _ w).new _).new _).new _).new _⟩
  generalize ((((w.alloc (.cells #[.int .i64 z0, .slice a1 l1 n1, .string x2, .string x3, .slice a4 l4 n4, .int .i64 z5, .int .i64 z6, .int .i64 z7, .int .i64 z8, .slice a9 l9 n9, .string x10] 40)).alloc (.cells #[.int .i64 z0, .slice b1 l1 m1, .string x2, .string x3, .slice b4 l4 m4, .int .i64 z5, .int .i64 z6, .int .i64 z7, .int .i64 z8, .slice b9 l9 m9, .string x10] 40)).alloc (.cells #[.int .i64 z5, .int .i64 z6, .int .i64 z7, .int .i64 z8, .slice a9 l9 n9, .string x10] 37)).alloc (.cells #[.int .i64 z5, .int .i64 z6, .int .i64 z7, .int .i64 z8, .slice b9 l9 m9, .string x10] 37)) = WL at *
  have HL : Hid (WL.heap[w.heap.size]? = some (.cells #[.int .i64 z0, .slice a1 l1 n1, .string x2, .string x3, .slice a4 l4 n4, .int .i64 z5, .int .i64 z6, .int .i64 z7, .int .i64 z8, .slice a9 l9 n9, .string x10] 40 (0, 0)) ∧ WL.heap[w.heap.size + 1]? = some (.cells #[.int .i64 z0, .slice b1 l1 m1, .string x2, .string x3, .slice b4 l4 m4, .int .i64 z5, .int .i64 z6, .int .i64 z7, .int .i64 z8, .slice b9 l9 m9, .string x10] 40 (0, 0)) ∧ Turned (fun _ => False) w WL) := ⟨hb0, hb1, ht⟩
  have p0 := cell_of hb2 0 _ rfl; have p1 := cell_of hb2 1 _ rfl; have p2 := cell_of hb2 2 _ rfl; have p3 := cell_of hb2 3 _ rfl; have p4 := cell_of hb2 4 _ rfl; have p5 := cell_of hb2 5 _ rfl; simp only [List.getElem_toArray, List.getElem_cons_zero, List.getElem_cons_succ] at p0 p1 p2 p3 p4 p5
  have q0 := cell_of hb3 0 _ rfl; have q1 := cell_of hb3 1 _ rfl; have q2 := cell_of hb3 2 _ rfl; have q3 := cell_of hb3 3 _ rfl; have q4 := cell_of hb3 4 _ rfl; have q5 := cell_of hb3 5 _ rfl; simp only [List.getElem_toArray, List.getElem_cons_zero, List.getElem_cons_succ] at q0 q1 q2 q3 q4 q5
  have fp := fun o => free_of hb2 o
  have fq := fun o => free_of hb3 o
  have jp := lt_of_block hb2
  have jq := lt_of_block hb3
  clear hb0 hb1 hb2 hb3 ht
  go_upto_region 5 with (go_at_call 59; (with_reducible refine (H9.out _ HL.out.2.2).mono ?_); rintro e w1 ⟨rfl, ht⟩; have X1 : Hid (w1.heap[w.heap.size]? = some (.cells #[.int .i64 z0, .slice a1 l1 n1, .string x2, .string x3, .slice a4 l4 n4, .int .i64 z5, .int .i64 z6, .int .i64 z7, .int .i64 z8, .slice a9 l9 n9, .string x10] 40 (0, 0)) ∧ w1.heap[w.heap.size + 1]? = some (.cells #[.int .i64 z0, .slice b1 l1 m1, .string x2, .string x3, .slice b4 l4 m4, .int .i64 z5, .int .i64 z6, .int .i64 z7, .int .i64 z8, .slice b9 l9 m9, .string x10] 40 (0, 0)) ∧ Turned (fun _ => False) w w1) := ⟨(ht.block _ (lt_of_block HL.out.1) id).trans HL.out.1, (ht.block _ (lt_of_block HL.out.2.1) id).trans HL.out.2.1, HL.out.2.2.trans ht fun _ _ q => q⟩; clear ht p0 p1 p2 p3 p4 p5 q0 q1 q2 q3 q4 q5 fp fq jp jq)
  have hb0 := X1.out.1; have hb1 := X1.out.2.1; have p0 := cell_of hb0 0 _ rfl; have p1 := cell_of hb0 1 _ rfl; have p2 := cell_of hb0 2 _ rfl; have p3 := cell_of hb0 3 _ rfl; have p4 := cell_of hb0 4 _ rfl; simp only [List.getElem_toArray, List.getElem_cons_zero, List.getElem_cons_succ] at p0 p1 p2 p3 p4; have q0 := cell_of hb1 0 _ rfl; have q1 := cell_of hb1 1 _ rfl; have q2 := cell_of hb1 2 _ rfl; have q3 := cell_of hb1 3 _ rfl; have q4 := cell_of hb1 4 _ rfl; simp only [List.getElem_toArray, List.getElem_cons_zero, List.getElem_cons_succ] at q0 q1 q2 q3 q4; have fp := fun o => free_of hb0 o; have fq := fun o => free_of hb1 o; have jp := lt_of_block hb0; have jq := lt_of_block hb1; clear hb0 hb1
  go_wp2_with (first
    | (go_at_call 59; (with_reducible refine (H1.out _ X1.out.2.2).mono ?_); rintro e w2 ⟨rfl, ht⟩
       have X2 : Hid (w2.heap[w.heap.size]? = some (.cells #[.int .i64 z0, .slice a1 l1 n1, .string x2, .string x3, .slice a4 l4 n4, .int .i64 z5, .int .i64 z6, .int .i64 z7, .int .i64 z8, .slice a9 l9 n9, .string x10] 40 (0, 0)) ∧ w2.heap[w.heap.size + 1]? = some (.cells #[.int .i64 z0, .slice b1 l1 m1, .string x2, .string x3, .slice b4 l4 m4, .int .i64 z5, .int .i64 z6, .int .i64 z7, .int .i64 z8, .slice b9 l9 m9, .string x10] 40 (0, 0)) ∧ Turned (fun _ => False) w w2) := ⟨(ht.block _ (lt_of_block X1.out.1) id).trans X1.out.1, (ht.block _ (lt_of_block X1.out.2.1) id).trans X1.out.2.1, X1.out.2.2.trans ht fun _ _ q => q⟩
       clear ht p0 p1 p2 p3 p4 q0 q1 q2 q3 q4 fp fq jp jq
       have hb0 := X2.out.1; have hb1 := X2.out.2.1; have p0 := cell_of hb0 0 _ rfl; have p1 := cell_of hb0 1 _ rfl; have p2 := cell_of hb0 2 _ rfl; have p3 := cell_of hb0 3 _ rfl; have p4 := cell_of hb0 4 _ rfl; simp only [List.getElem_toArray, List.getElem_cons_zero, List.getElem_cons_succ] at p0 p1 p2 p3 p4; have q0 := cell_of hb1 0 _ rfl; have q1 := cell_of hb1 1 _ rfl; have q2 := cell_of hb1 2 _ rfl; have q3 := cell_of hb1 3 _ rfl; have q4 := cell_of hb1 4 _ rfl; simp only [List.getElem_toArray, List.getElem_cons_zero, List.getElem_cons_succ] at q0 q1 q2 q3 q4; have fp := fun o => free_of hb0 o; have fq := fun o => free_of hb1 o; have jp := lt_of_block hb0; have jq := lt_of_block hb1; clear hb0 hb1)
    | (go_at_call 60; (with_reducible refine (H4.out _ X2.out.2.2).mono ?_); rintro e w3 ⟨rfl, ht⟩
       have X3 : Hid (Turned (fun _ => False) w w3) := X2.out.2.2.trans ht fun _ _ q => q
       clear ht))
  go_ret
  exact ⟨rfl, X3.out⟩
end Go.Proofs.YteblabpplaaddaaGreatDoor

namespace Go.Proofs.YteblabpplaaddaaGreatDoor
open Go.RowKit Go.Mine Go.Mine.Sc

/-- a list of other commands is told apart by its length alone -/
def SmR (w : World) (g n : Nat) (v : Value) (wr : World) : Prop := ∃ k : Nat, v = .int .i64 (k : Nat) ∧ k + g = n ∧ Turned (fun _ => False) w wr

set_option maxRecDepth 100000 in
set_option maxHeartbeats 4000000 in
theorem same_any (w : World) (S1 S2 : Nat → Prop) (v1 v2 : Value) (l : List Cmd) (h1 : CmdsR w S1 v1 l) (h2 : CmdsR w S2 v2 l) (hl : l.length ≤ 4611686018427387904) : Calls Tryz.prog 14 #[v1, v2] w fun e w' => e = .returned (.bool true) ∧ Turned (fun _ => False) w w' := by
  obtain ⟨a1, c1, rfl, -, -⟩ := h1.value
  obtain ⟨a2, c2, rfl, -, -⟩ := h2.value
  have H : Hid (CmdsR w S1 (.slice a1 l.length c1) l ∧ CmdsR w S2 (.slice a2 l.length c2) l ∧ l.length ≤ 4611686018427387904) := ⟨h1, h2, hl⟩
  obtain ⟨n, hn⟩ : ∃ n, n = l.length := ⟨_, rfl⟩
  have HN : Hid (n = l.length) := hn
  rw [← hn]
  have B0 : Hid (SmR w n n (.int .i64 0) w) := ⟨0, rfl, by omega, Turned.refl _ _⟩
  clear h1 h2 hl hn
  go_enter Tryz.func14, Tryz.ntmps14
  go_wp2
  go_loopg [13] n (fun g v wr => SmR w g n v wr)
  case atStart => exact B0.out
  case round =>
    obtain ⟨k, rfl, hkg, ht⟩ := hrel
    have G : Hid (k + gk = n ∧ Turned (fun _ => False) w wr) := ⟨hkg, ht⟩
    clear hkg ht B0
    have HB : Hid (n ≤ 4611686018427387904) := hidD (by have := HN.out; have := H.out.2.2; omega)
    by_cases hlt : k < n
    · obtain ⟨c, hc⟩ : ∃ c, l[k]? = some c := ⟨_, List.getElem?_eq_getElem (by have := HN.out; omega)⟩
      obtain ⟨g1, o1, cs, rfl, l1, v1, e1⟩ := (H.out.1.turned G.out.2 fun _ _ q => q).elem hc
      obtain ⟨g2, o2, ds, rfl, l2, v2, e2⟩ := (H.out.2.1.turned G.out.2 fun _ _ q => q).elem hc
      have HI : Hid (∀ W, Turned (fun _ => False) wr W → Calls Tryz.prog 13 #[.agg cs] W fun e w' => e = .returned (.agg cs) ∧ Turned (fun _ => False) W w') := fun W t => its_cmd W _ c cs (v1.turned t fun _ _ q => q)
      have HS : Hid (∀ W, Turned (fun _ => False) wr W → Calls Tryz.prog 31 #[.agg cs, .agg ds] W fun e w' => e = .returned (.bool true) ∧ Turned (fun _ => False) W w') := fun W t => same_cmd W _ _ c cs ds (v1.turned t fun _ _ q => q) (v2.turned t fun _ _ q => q)
      have HC1 : Hid (∀ W, Turned (fun _ => False) wr W → ∀ i, i < 11 → W.cell? ⟨g1, o1 + k * 11 + i, none⟩ = cs[i]?) := fun W t i hi => by
        rw [← e1 i hi]; simp only [World.cell?, t.block _ l1 id]
      have HC2 : Hid (∀ W, Turned (fun _ => False) wr W → ∀ i, i < 11 → W.cell? ⟨g2, o2 + k * 11 + i, none⟩ = ds[i]?) := fun W t i hi => by
        rw [← e2 i hi]; simp only [World.cell?, t.block _ l2 id]
      obtain ⟨x1, y1, x4, y4, x9, y9, rfl, -, -, -⟩ := v1
      obtain ⟨z1, u1, z4, u4, z9, u9, rfl, -, -, -⟩ := v2
      have hd1 : decide ((k : Int) < (n : Int)) = true := by simp; omega
      have hd2 : decide (k < n) = true := by simp; omega
      have HW : Hid (wrap64 ((k : Int) + 1) = ((k + 1 : Nat) : Int)) := hidD (w64_in _ (by have := HB.out; omega))
      clear e1 e2
      go_wp2
      have p0 := HC1.out wr (Turned.refl _ _) 0 (by decide); have p1 := HC1.out wr (Turned.refl _ _) 1 (by decide); have p2 := HC1.out wr (Turned.refl _ _) 2 (by decide); have p3 := HC1.out wr (Turned.refl _ _) 3 (by decide); have p4 := HC1.out wr (Turned.refl _ _) 4 (by decide); have p5 := HC1.out wr (Turned.refl _ _) 5 (by decide); have p6 := HC1.out wr (Turned.refl _ _) 6 (by decide); have p7 := HC1.out wr (Turned.refl _ _) 7 (by decide); have p8 := HC1.out wr (Turned.refl _ _) 8 (by decide); have p9 := HC1.out wr (Turned.refl _ _) 9 (by decide); have p10 := HC1.out wr (Turned.refl _ _) 10 (by decide); simp only [List.getElem?_toArray, List.getElem?_cons_zero, List.getElem?_cons_succ, Nat.add_zero] at p0 p1 p2 p3 p4 p5 p6 p7 p8 p9 p10
      have q0 := HC2.out wr (Turned.refl _ _) 0 (by decide); have q1 := HC2.out wr (Turned.refl _ _) 1 (by decide); have q2 := HC2.out wr (Turned.refl _ _) 2 (by decide); have q3 := HC2.out wr (Turned.refl _ _) 3 (by decide); have q4 := HC2.out wr (Turned.refl _ _) 4 (by decide); have q5 := HC2.out wr (Turned.refl _ _) 5 (by decide); have q6 := HC2.out wr (Turned.refl _ _) 6 (by decide); have q7 := HC2.out wr (Turned.refl _ _) 7 (by decide); have q8 := HC2.out wr (Turned.refl _ _) 8 (by decide); have q9 := HC2.out wr (Turned.refl _ _) 9 (by decide); have q10 := HC2.out wr (Turned.refl _ _) 10 (by decide); simp only [List.getElem?_toArray, List.getElem?_cons_zero, List.getElem?_cons_succ, Nat.add_zero] at q0 q1 q2 q3 q4 q5 q6 q7 q8 q9 q10
      go_region_with (first
        | (go_at_call 13; (with_reducible refine (HI.out _ (Turned.refl _ _).draw).mono ?_); rintro e w4 ⟨rfl, ht⟩; have T4 : Hid (Turned (fun _ => False) wr w4) := hidD ((Turned.drew _ wr).trans ht fun _ _ q => q); clear ht q0 q1 q2 q3 q4 q5 q6 q7 q8 q9 q10; have q0 := HC2.out w4 T4.out 0 (by decide); have q1 := HC2.out w4 T4.out 1 (by decide); have q2 := HC2.out w4 T4.out 2 (by decide); have q3 := HC2.out w4 T4.out 3 (by decide); have q4 := HC2.out w4 T4.out 4 (by decide); have q5 := HC2.out w4 T4.out 5 (by decide); have q6 := HC2.out w4 T4.out 6 (by decide); have q7 := HC2.out w4 T4.out 7 (by decide); have q8 := HC2.out w4 T4.out 8 (by decide); have q9 := HC2.out w4 T4.out 9 (by decide); have q10 := HC2.out w4 T4.out 10 (by decide); simp only [List.getElem?_toArray, List.getElem?_cons_zero, List.getElem?_cons_succ, Nat.add_zero] at q0 q1 q2 q3 q4 q5 q6 q7 q8 q9 q10)
        | (go_at_call 31; (with_reducible refine (HS.out _ T4.out).mono ?_); rintro e w5 ⟨rfl, ht⟩; have T5 : Hid (Turned (fun _ => False) wr w5) := hidD (T4.out.trans ht fun _ _ q => q); clear ht))
      all_goals clear HI HS HC1 HC2
      all_goals go_wp2
      all_goals
        go_roundg (gk - 1)
        case measure => have := G.out; omega
        case rel => exact ⟨k + 1, by rw [HW.out], by have := G.out; omega, G.out.2.trans T5.out fun _ _ q => q⟩
    · have hd1 : decide ((k : Int) < (n : Int)) = false := by simp; omega
      have hd2 : decide (k < n) = false := by simp; omega
      clear hlt
      go_wp2
      go_ret
      exact ⟨rfl, G.out.2⟩
end Go.Proofs.YteblabpplaaddaaGreatDoor
