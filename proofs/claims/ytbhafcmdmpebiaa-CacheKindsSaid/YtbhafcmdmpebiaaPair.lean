/- The cache of pairs by lists: the ring, the map and what find, unhang and hang make of them (the int cache's text, turned). -/
import Derived.Test.YtbhafcmdmpebiaaRows
import Derived.Test.YtbhafcmdmpebiaaSl
import Derived.BigQuiet
import Derived.Deep.QuietTactic
import Derived.ProofKit
import Derived.DeepKeys4
namespace Go.Proofs.Ytbhafcmdmpebiaa.Pair
open Go.RowKit Go.Mine

abbrev pt (b : Nat) : Value := .pointer (some ⟨b, 0, none⟩)
def Blk (w : World) (b : Nat) (c : Array Value) (T : TypeId) : Prop := w.heap[b]? = some (.cells c T (0, 0))

set_option maxHeartbeats 1000000 in
theorem unhang_mid (c n p q : Nat) (k0 k1 v0 xk0 xk1 xv0 o1 yk0 yk1 yv0 n2 : Value) (w : World)
    (hnp : n ≠ p)
    (hnq : n ≠ q)
    (hpq : p ≠ q)
    (hn : Blk w n #[k0, k1, v0, pt p, pt q] 79)
    (hp : Blk w p #[xk0, xk1, xv0, o1, pt n] 79)
    (hq : Blk w q #[yk0, yk1, yv0, pt n, n2] 79) :
    Calls Try.prog 34 #[pt c, pt n] w fun e w' => e = .returned (.tuple #[]) ∧ Blk w' n #[k0, k1, v0, .pointer none, .pointer none] 79 ∧ Blk w' p #[xk0, xk1, xv0, o1, pt q] 79 ∧ Blk w' q #[yk0, yk1, yv0, pt p, n2] 79 ∧ Turned (fun b => b = n ∨ b = p ∨ b = q) w w' ∧ w'.heap.size = w.heap.size := by
  have a0 := cell_of hn 3 _ rfl
  have b0 := free_of hn 3
  have a1 := cell_of hn 4 _ rfl
  have b1 := free_of hn 4
  have a2 := cell_of hp 4 _ rfl
  have b2 := free_of hp 4
  have a3 := cell_of hq 3 _ rfl
  have b3 := free_of hq 3
  go_enter Try.func34, Try.ntmps34
  go_wp2
  go_region
  go_wp2
  go_region
  go_wp2
  go_end0
  refine ⟨rfl, ?_, ?_, ?_, ?t, ?_⟩
  case t => repeat (first | exact Turned.refl _ _ | refine Turned.draw ?_ | refine Turned.set ?_ (by simp) _)
  all_goals (unfold Blk at *; simp [heap_setCell_if, heap_drew, hn, hp, hq, hnp, hnq, hpq, hnp.symm, hnq.symm, hpq.symm])

set_option maxHeartbeats 1000000 in
theorem unhang_first (c n q : Nat) (r mp el yo k0 k1 v0 yk0 yk1 yv0 n2 : Value) (w : World)
    (hcn : c ≠ n)
    (hcq : c ≠ q)
    (hnq : n ≠ q)
    (hc : Blk w c #[r, mp, el, yo] 76)
    (hn : Blk w n #[k0, k1, v0, .pointer none, pt q] 79)
    (hq : Blk w q #[yk0, yk1, yv0, pt n, n2] 79) :
    Calls Try.prog 34 #[pt c, pt n] w fun e w' => e = .returned (.tuple #[]) ∧ Blk w' c #[r, mp, pt q, yo] 76 ∧ Blk w' n #[k0, k1, v0, .pointer none, .pointer none] 79 ∧ Blk w' q #[yk0, yk1, yv0, .pointer none, n2] 79 ∧ Turned (fun b => b = c ∨ b = n ∨ b = q) w w' ∧ w'.heap.size = w.heap.size := by
  have a0 := cell_of hc 2 _ rfl
  have b0 := free_of hc 2
  have a1 := cell_of hn 3 _ rfl
  have b1 := free_of hn 3
  have a2 := cell_of hn 4 _ rfl
  have b2 := free_of hn 4
  have a3 := cell_of hq 3 _ rfl
  have b3 := free_of hq 3
  go_enter Try.func34, Try.ntmps34
  go_wp2
  go_region
  go_wp2
  go_end0
  refine ⟨rfl, ?_, ?_, ?_, ?t, ?_⟩
  case t => repeat (first | exact Turned.refl _ _ | refine Turned.draw ?_ | refine Turned.set ?_ (by simp) _)
  all_goals (unfold Blk at *; simp [heap_setCell_if, heap_drew, hc, hn, hq, hcn, hcq, hnq, hcn.symm, hcq.symm, hnq.symm])

set_option maxHeartbeats 1000000 in
theorem unhang_last (c n p : Nat) (r mp el yo k0 k1 v0 xk0 xk1 xv0 o1 : Value) (w : World)
    (hcn : c ≠ n)
    (hcp : c ≠ p)
    (hnp : n ≠ p)
    (hc : Blk w c #[r, mp, el, yo] 76)
    (hn : Blk w n #[k0, k1, v0, pt p, .pointer none] 79)
    (hp : Blk w p #[xk0, xk1, xv0, o1, pt n] 79) :
    Calls Try.prog 34 #[pt c, pt n] w fun e w' => e = .returned (.tuple #[]) ∧ Blk w' c #[r, mp, el, pt p] 76 ∧ Blk w' n #[k0, k1, v0, .pointer none, .pointer none] 79 ∧ Blk w' p #[xk0, xk1, xv0, o1, .pointer none] 79 ∧ Turned (fun b => b = c ∨ b = n ∨ b = p) w w' ∧ w'.heap.size = w.heap.size := by
  have a0 := cell_of hc 3 _ rfl
  have b0 := free_of hc 3
  have a1 := cell_of hn 3 _ rfl
  have b1 := free_of hn 3
  have a2 := cell_of hn 4 _ rfl
  have b2 := free_of hn 4
  have a3 := cell_of hp 4 _ rfl
  have b3 := free_of hp 4
  go_enter Try.func34, Try.ntmps34
  go_wp2
  go_region
  go_wp2
  go_end0
  refine ⟨rfl, ?_, ?_, ?_, ?t, ?_⟩
  case t => repeat (first | exact Turned.refl _ _ | refine Turned.draw ?_ | refine Turned.set ?_ (by simp) _)
  all_goals (unfold Blk at *; simp [heap_setCell_if, heap_drew, hc, hn, hp, hcn, hcp, hnp, hcn.symm, hcp.symm, hnp.symm])

set_option maxHeartbeats 1000000 in
theorem unhang_only (c n : Nat) (r mp el yo k0 k1 v0 : Value) (w : World)
    (hcn : c ≠ n)
    (hc : Blk w c #[r, mp, el, yo] 76)
    (hn : Blk w n #[k0, k1, v0, .pointer none, .pointer none] 79) :
    Calls Try.prog 34 #[pt c, pt n] w fun e w' => e = .returned (.tuple #[]) ∧ Blk w' c #[r, mp, .pointer none, .pointer none] 76 ∧ Blk w' n #[k0, k1, v0, .pointer none, .pointer none] 79 ∧ Turned (fun b => b = c ∨ b = n) w w' ∧ w'.heap.size = w.heap.size := by
  have a0 := cell_of hc 2 _ rfl
  have b0 := free_of hc 2
  have a1 := cell_of hc 3 _ rfl
  have b1 := free_of hc 3
  have a2 := cell_of hn 3 _ rfl
  have b2 := free_of hn 3
  have a3 := cell_of hn 4 _ rfl
  have b3 := free_of hn 4
  go_enter Try.func34, Try.ntmps34
  go_wp2
  go_end0
  refine ⟨rfl, ?_, ?_, ?t, ?_⟩
  case t => repeat (first | exact Turned.refl _ _ | refine Turned.draw ?_ | refine Turned.set ?_ (by simp) _)
  all_goals (unfold Blk at *; simp [heap_setCell_if, hc, hn, hcn, hcn.symm])

set_option maxHeartbeats 1000000 in
theorem hang_first (c n : Nat) (r mp k0 k1 v0 o x : Value) (w : World)
    (hcn : c ≠ n)
    (hc : Blk w c #[r, mp, x, .pointer none] 76)
    (hn : Blk w n #[k0, k1, v0, o, .pointer none] 79) :
    Calls Try.prog 35 #[pt c, pt n] w fun e w' => e = .returned (.tuple #[]) ∧ Blk w' c #[r, mp, pt n, pt n] 76 ∧ Blk w' n #[k0, k1, v0, .pointer none, .pointer none] 79 ∧ Turned (fun b => b = c ∨ b = n) w w' ∧ w'.heap.size = w.heap.size := by
  have a0 := cell_of hc 2 _ rfl
  have b0 := free_of hc 2
  have a1 := cell_of hc 3 _ rfl
  have b1 := free_of hc 3
  have a2 := cell_of hn 3 _ rfl
  have b2 := free_of hn 3
  go_enter Try.func35, Try.ntmps35
  go_wp2
  go_end0
  refine ⟨rfl, ?_, ?_, ?t, ?_⟩
  case t => repeat (first | exact Turned.refl _ _ | refine Turned.draw ?_ | refine Turned.set ?_ (by simp) _)
  all_goals (unfold Blk at *; simp [heap_setCell_if, hc, hn, hcn, hcn.symm])

set_option maxHeartbeats 1000000 in
theorem hang_more (c n p : Nat) (r mp el k0 k1 v0 o xk0 xk1 xv0 o1 : Value) (w : World)
    (hcn : c ≠ n)
    (hcp : c ≠ p)
    (hnp : n ≠ p)
    (hc : Blk w c #[r, mp, el, pt p] 76)
    (hn : Blk w n #[k0, k1, v0, o, .pointer none] 79)
    (hp : Blk w p #[xk0, xk1, xv0, o1, .pointer none] 79) :
    Calls Try.prog 35 #[pt c, pt n] w fun e w' => e = .returned (.tuple #[]) ∧ Blk w' c #[r, mp, el, pt n] 76 ∧ Blk w' n #[k0, k1, v0, pt p, .pointer none] 79 ∧ Blk w' p #[xk0, xk1, xv0, o1, pt n] 79 ∧ Turned (fun b => b = c ∨ b = n ∨ b = p) w w' ∧ w'.heap.size = w.heap.size := by
  have a0 := cell_of hc 3 _ rfl
  have b0 := free_of hc 3
  have a1 := cell_of hn 3 _ rfl
  have b1 := free_of hn 3
  have a2 := cell_of hp 4 _ rfl
  have b2 := free_of hp 4
  go_enter Try.func35, Try.ntmps35
  go_wp2
  go_end0
  refine ⟨rfl, ?_, ?_, ?_, ?t, ?_⟩
  case t => repeat (first | exact Turned.refl _ _ | refine Turned.draw ?_ | refine Turned.set ?_ (by simp) _)
  all_goals (unfold Blk at *; simp [heap_setCell_if, hc, hn, hp, hcn, hcp, hnp, hcn.symm, hcp.symm, hnp.symm])



structure Pr where
  a : Int
  t : Bool
deriving DecidableEq
/-- a key as a value -/
def kv (k : Pr) : Value := .agg #[.int .i8 k.a, .bool k.t]
/-- a slice as a value -/
structure Sv where
  a : Option Addr
  n : Nat
  c : Nat
structure Nd where
  b : Nat
  k : Pr
  v : Sv

def hd : List Nd → Option Nat → Option Nat
  | [], nx => nx
  | m :: _, _ => some m.b
def lst : List Nd → Option Nat → Option Nat
  | [], pv => pv
  | m :: r, _ => lst r (some m.b)
def pto : Option Nat → Value
  | none => .pointer none
  | some b => pt b
def NdIs (w : World) (n : Nd) (pv nx : Value) : Prop := Blk w n.b #[.int .i8 n.k.a, .bool n.k.t, .slice n.v.a n.v.n n.v.c, pv, nx] 79
def Seg (w : World) : List Nd → Option Nat → Option Nat → Prop
  | [], _, _ => True
  | n :: r, pv, nx => NdIs w n (pto pv) (pto (hd r nx)) ∧ Seg w r (some n.b) nx

theorem hd_cons (m : Nd) (r : List Nd) (nx : Option Nat) : hd (m :: r) nx = some m.b := rfl
theorem hd_nil (nx : Option Nat) : hd [] nx = nx := rfl
theorem lst_cons (m : Nd) (r : List Nd) (pv : Option Nat) : lst (m :: r) pv = lst r (some m.b) := rfl
theorem lst_nil (pv : Option Nat) : lst [] pv = pv := rfl
theorem pto_some (b : Nat) : pto (some b) = pt b := rfl
theorem hd_app (l1 l2 : List Nd) (nx : Option Nat) : hd (l1 ++ l2) nx = hd l1 (hd l2 nx) := by cases l1 <;> rfl
theorem lst_app : ∀ (l1 l2 : List Nd) (pv : Option Nat), lst (l1 ++ l2) pv = lst l2 (lst l1 pv)
  | [], _, _ => rfl
  | m :: r, l2, _pv => lst_app r l2 (some m.b)
theorem seg_app (w : World) : ∀ (l1 l2 : List Nd) (pv nx : Option Nat), Seg w (l1 ++ l2) pv nx ↔ Seg w l1 pv (hd l2 nx) ∧ Seg w l2 (lst l1 pv) nx
  | [], _, _, _ => by simp [Seg, lst]
  | m :: r, l2, pv, nx => by simp only [List.cons_append, Seg, seg_app w r l2, hd_app, lst, and_assoc]
theorem lst_snoc (l : List Nd) (n : Nd) (pv : Option Nat) : lst (l ++ [n]) pv = some n.b := by rw [lst_app]; rfl

theorem Blk.turned {S : Nat → Prop} {w w' : World} {b : Nat} {c : Array Value} {T : TypeId} (h : Blk w b c T) (ht : Turned S w w') (hS : ¬ S b) : Blk w' b c T :=
  (ht.block b (lt_of_block h) hS).trans h
theorem Seg.turned {S : Nat → Prop} {w w' : World} (ht : Turned S w w') : ∀ {l : List Nd} {pv nx : Option Nat}, Seg w l pv nx → (∀ n ∈ l, ¬ S n.b) → Seg w' l pv nx
  | [], _, _, _, _ => trivial
  | n :: _, _, _, h, hS => ⟨h.1.turned ht (hS n (.head _)), Seg.turned ht h.2 fun m hm => hS m (.tail _ hm)⟩

def Ring (w : World) (c : Nat) (r mp : Value) (l : List Nd) : Prop :=
  Blk w c #[r, mp, pto (hd l none), pto (lst l none)] 76 ∧ Seg w l none none ∧ (c :: l.map (·.b)).Nodup

def RingSet (c : Nat) (l : List Nd) (b : Nat) : Prop := b = c ∨ b ∈ l.map (·.b)

theorem split_last {α : Type} (l : List α) : l = [] ∨ ∃ r x, l = r ++ [x] := by
  rcases List.eq_nil_or_concat l with h | ⟨r, x, h⟩
  · exact .inl h
  · exact .inr ⟨r, x, by simpa using h⟩

theorem unhang_ring (c : Nat) (r mp : Value) (l1 l2 : List Nd) (n : Nd) (w : World) (h : Ring w c r mp (l1 ++ n :: l2)) :
    Calls Try.prog 34 #[pt c, pt n.b] w fun e w' => e = .returned (.tuple #[]) ∧ Ring w' c r mp (l1 ++ l2) ∧ NdIs w' n (.pointer none) (.pointer none) ∧
      Turned (RingSet c (l1 ++ n :: l2)) w w' ∧ w'.heap.size = w.heap.size := by
  obtain ⟨hb, hs, hd0⟩ := h
  have hdist := hd0
  rw [seg_app] at hs
  obtain ⟨h1, h2, h3⟩ := hs
  simp only [List.map_append, List.map_cons, List.nodup_cons, List.mem_append, List.mem_cons, List.nodup_append, not_or, List.mem_map] at hd0
  rcases split_last l1 with rfl | ⟨a, p, rfl⟩
  · cases l2 with
    | nil =>
      refine (unhang_only c n.b _ _ _ _ _ _ _ w (by intro q; simp [q] at hdist) hb h2).mono ?_
      rintro e w' ⟨he, g1, g2, g3, g4⟩
      exact ⟨he, ⟨g1, trivial, by simp⟩, g2, g3.mono fun i _ q => by rcases q with rfl | rfl <;> simp [RingSet], g4⟩
    | cons q t =>
      have e1 : c ≠ n.b := by intro q; simp [q] at hdist
      have e2 : c ≠ q.b := by intro z; simp [z] at hdist
      have e3 : n.b ≠ q.b := by intro z; simp [z] at hdist
      refine (unhang_first c n.b q.b _ _ _ _ _ _ _ _ _ _ _ w e1 e2 e3 hb h2 h3.1).mono ?_
      rintro e w' ⟨he, g1, g2, g3, g4, g5⟩
      refine ⟨he, ⟨g1, ⟨g3, Seg.turned g4 h3.2 ?_⟩, ?_⟩, g2, g4.mono fun i _ z => by rcases z with rfl | rfl | rfl <;> simp [RingSet], g5⟩
      · intro m hm z
        have hm' : m.b ∈ t.map (·.b) := List.mem_map.2 ⟨m, hm, rfl⟩
        simp only [List.nil_append, List.map_cons, List.nodup_cons, List.mem_cons, not_or] at hdist
        rcases z with z | z | z <;> rw [z] at hm'
        · exact hdist.1.2.2 hm'
        · exact hdist.2.1.2 hm'
        · exact hdist.2.2.1 hm'
      · simp only [List.nil_append, List.map_cons, List.nodup_cons, List.mem_cons, not_or] at hdist ⊢
        exact ⟨⟨hdist.1.2.1, hdist.1.2.2⟩, hdist.2.2⟩
  · rw [seg_app] at h1
    obtain ⟨ha, hp, -⟩ := h1
    have e1 : c ≠ n.b := by intro q; simp [q] at hdist
    have e4 : c ≠ p.b := by intro q; simp [q] at hdist
    have e5 : n.b ≠ p.b := by
      intro z
      simp only [List.append_assoc, List.map_append, List.map_cons, List.map_nil, List.nodup_cons, List.nodup_append] at hdist
      simp [z] at hdist
    rw [lst_snoc] at h2
    cases l2 with
    | nil =>
      refine (unhang_last c n.b p.b _ _ _ _ _ _ _ _ _ _ _ w e1 e4 e5 (by simpa only [List.append_assoc, List.cons_append, List.nil_append, List.append_nil, hd_app, hd_cons, hd_nil, lst_app, lst_cons, lst_nil, pto_some] using hb) h2 hp).mono ?_
      rintro e w' ⟨he, g1, g2, g3, g4, g5⟩
      have hna : ∀ m ∈ a, ¬ (m.b = c ∨ m.b = n.b ∨ m.b = p.b) := by
        intro m hm z
        have hm' : m.b ∈ a.map (·.b) := List.mem_map.2 ⟨m, hm, rfl⟩
        simp only [List.append_assoc, List.map_append, List.map_cons, List.map_nil, List.nodup_cons, List.nodup_append, List.mem_append, List.mem_cons, not_or] at hdist
        rcases z with z | z | z <;> rw [z] at hm'
        · exact hdist.1.1 hm'
        · exact hdist.2.2.2 _ hm' n.b (by simp) rfl
        · exact hdist.2.2.2 _ hm' p.b (by simp) rfl
      refine ⟨he, ⟨?_, ?_, ?_⟩, g2, g4.mono fun i _ z => by rcases z with rfl | rfl | rfl <;> simp [RingSet], g5⟩
      · simpa only [List.append_assoc, List.cons_append, List.nil_append, List.append_nil, hd_app, hd_cons, hd_nil, lst_app, lst_cons, lst_nil, pto_some] using g1
      · rw [List.append_nil, seg_app]
        exact ⟨Seg.turned g4 (by simpa [hd] using ha) hna, g3, trivial⟩
      · simp only [List.append_nil]
        refine List.Nodup.sublist ?_ hdist
        simp
    | cons q t =>
      have e2 : c ≠ q.b := by intro z; simp [z] at hdist
      have e3 : n.b ≠ q.b := by
        intro z
        simp only [List.append_assoc, List.map_append, List.map_cons, List.map_nil, List.nodup_cons, List.nodup_append] at hdist
        simp [z] at hdist
      have e6 : p.b ≠ q.b := by
        intro z
        simp only [List.append_assoc, List.map_append, List.map_cons, List.map_nil, List.nodup_cons, List.nodup_append] at hdist
        simp [z] at hdist
      refine (unhang_mid c n.b p.b q.b _ _ _ _ _ _ _ _ _ _ _ w e5 e3 e6 h2 hp h3.1).mono ?_
      rintro e w' ⟨he, g2, g3, g1, g4, g5⟩
      simp only [List.append_assoc, List.map_append, List.map_cons, List.nodup_cons, List.nodup_append, List.mem_append, List.mem_cons, not_or, List.singleton_append] at hdist
      have hna : ∀ m ∈ a, ¬ (m.b = n.b ∨ m.b = p.b ∨ m.b = q.b) := by
        intro m hm z
        have hm' : m.b ∈ a.map (·.b) := List.mem_map.2 ⟨m, hm, rfl⟩
        rcases z with z | z | z <;> rw [z] at hm'
        · exact hdist.2.2.2 _ hm' n.b (by simp) rfl
        · exact hdist.2.2.2 _ hm' p.b (by simp) rfl
        · exact hdist.2.2.2 _ hm' q.b (by simp) rfl
      have hnt : ∀ m ∈ t, ¬ (m.b = n.b ∨ m.b = p.b ∨ m.b = q.b) := by
        intro m hm z
        have hm' : m.b ∈ t.map (·.b) := List.mem_map.2 ⟨m, hm, rfl⟩
        have hd2 := hdist.2.2.1
        rcases z with z | z | z <;> rw [z] at hm'
        · exact hd2.2.1.2 hm'
        · exact hd2.1.2.2 hm'
        · exact hd2.2.2.1 hm'
      refine ⟨he, ⟨?_, ?_, ?_⟩, g2, g4.mono fun i _ z => by rcases z with rfl | rfl | rfl <;> simp [RingSet], g5⟩
      · have hb' : Blk w' c #[r, mp, pto (hd (a ++ [p] ++ n :: q :: t) none), pto (lst (a ++ [p] ++ n :: q :: t) none)] 76 := hb.turned g4 (by rintro (z | z | z); exact e1 z; exact e4 z; exact e2 z)
        simpa only [List.append_assoc, List.cons_append, List.nil_append, List.append_nil, hd_app, hd_cons, hd_nil, lst_app, lst_cons, lst_nil, pto_some] using hb'
      · rw [List.append_assoc, seg_app, List.singleton_append]
        exact ⟨Seg.turned g4 (by simpa [hd] using ha) hna, g3, g1, Seg.turned g4 h3.2 hnt⟩
      · simp only [List.append_assoc, List.map_append, List.map_cons, List.nodup_cons, List.nodup_append, List.mem_append, List.mem_cons, not_or, List.singleton_append]
        refine ⟨⟨hdist.1.1, hdist.1.2.1, hdist.1.2.2.2.1, hdist.1.2.2.2.2⟩, hdist.2.1, ⟨⟨hdist.2.2.1.1.2.1, hdist.2.2.1.1.2.2⟩, hdist.2.2.1.2.2⟩, ?_⟩
        intro x hx y hy
        exact hdist.2.2.2 x hx y (by rcases hy with hy | hy | hy <;> simp [hy])

theorem hang_ring (c : Nat) (r mp o : Value) (l : List Nd) (n : Nd) (w : World) (h : Ring w c r mp l) (hn : NdIs w n o (.pointer none)) (hnew : ¬ RingSet c l n.b) :
    Calls Try.prog 35 #[pt c, pt n.b] w fun e w' => e = .returned (.tuple #[]) ∧ Ring w' c r mp (l ++ [n]) ∧
      Turned (RingSet c (l ++ [n])) w w' ∧ w'.heap.size = w.heap.size := by
  obtain ⟨hb, hs, hdist⟩ := h
  simp only [RingSet, not_or] at hnew
  rcases split_last l with rfl | ⟨a, p, rfl⟩
  · refine (hang_first c n.b _ _ _ _ _ _ _ w (Ne.symm hnew.1) hb hn).mono ?_
    rintro e w' ⟨he, g1, g2, g3, g4⟩
    exact ⟨he, ⟨g1, ⟨g2, trivial⟩, by simp [Ne.symm hnew.1]⟩, g3.mono fun i _ q => by rcases q with rfl | rfl <;> simp [RingSet], g4⟩
  · rw [seg_app] at hs
    obtain ⟨ha, hp, -⟩ := hs
    have e4 : c ≠ p.b := by intro q; simp [q] at hdist
    have e5 : n.b ≠ p.b := by intro q; simp [q] at hnew
    refine (hang_more c n.b p.b _ _ _ _ _ _ _ _ _ _ _ w (Ne.symm hnew.1) e4 e5 (by simpa only [List.append_assoc, List.cons_append, List.nil_append, List.append_nil, hd_app, hd_cons, hd_nil, lst_app, lst_cons, lst_nil, pto_some] using hb) hn hp).mono ?_
    rintro e w' ⟨he, g1, g2, g3, g4, g5⟩
    simp only [List.map_append, List.map_cons, List.map_nil, List.nodup_cons, List.nodup_append, List.mem_append, List.mem_cons, not_or, List.not_mem_nil, not_false_eq_true] at hdist hnew
    have hna : ∀ m ∈ a, ¬ (m.b = c ∨ m.b = n.b ∨ m.b = p.b) := by
      intro m hm z
      have hm' : m.b ∈ a.map (·.b) := List.mem_map.2 ⟨m, hm, rfl⟩
      rcases z with z | z | z <;> rw [z] at hm'
      · exact hdist.1.1 hm'
      · exact hnew.2.1 hm'
      · exact hdist.2.2.2 _ hm' p.b (by simp) rfl
    refine ⟨he, ⟨?_, ?_, ?_⟩, g4.mono fun i _ z => by rcases z with rfl | rfl | rfl <;> simp [RingSet], g5⟩
    · simpa only [List.append_assoc, List.cons_append, List.nil_append, List.append_nil, hd_app, hd_cons, hd_nil, lst_app, lst_cons, lst_nil, pto_some] using g1
    · rw [List.append_assoc, seg_app, List.singleton_append]
      exact ⟨Seg.turned g4 (by simpa [hd] using ha) hna, g3, by rw [show lst (a ++ [p]) none = some p.b from lst_snoc _ _ _] at *; exact ⟨g2, trivial⟩⟩
    · simp only [List.append_assoc, List.map_append, List.map_cons, List.map_nil, List.nodup_cons, List.nodup_append, List.mem_append, List.mem_cons, not_or, List.singleton_append, List.not_mem_nil, not_false_eq_true]
      refine ⟨⟨hdist.1.1, e4, Ne.symm hnew.1, trivial⟩, hdist.2.1, ?_, ?_⟩
      · simp [Ne.symm e5]
      · intro x hx y hy
        rcases hy with hy | hy | hy
        · exact hdist.2.2.2 x hx y (by simp [hy])
        · intro z; subst z; subst hy; exact hnew.2.1 hx
        · simp at hy


/-- the keys that the law makes -/
def KPair (v : Value) : Prop := ∃ k : Pr, 0 ≤ k.a ∧ k.a ≤ 15 ∧ v = kv k
theorem kv_inj {k k' : Pr} (h : kv k = kv k') : k = k' := by
  cases k; cases k'; simp [kv] at h; simp [h]
theorem laidOut : laidOutB Try.prog = true := by kernel_rfl
theorem row38 : (38 : TypeId) < Try.prog.types.size := of_decide_eq_true (by kernel_rfl)
theorem law38 : WideMaps.KeyLaw Try.prog 38 := deep_law_laid laidOut (m := 2) (by omega) row38 (by kernel_rfl) (by kernel_rfl)
theorem keys38 : ∀ (a : Fin 16) (t : Bool), (keyOf Try.prog 38 (.agg #[.int .i8 (a.val : Int), .bool t])).isSome = true := of_decide_eq_true (by kernel_rfl)
theorem KPair.key {v : Value} (h : KPair v) : ∃ l, keyOf Try.prog 38 v = some l := by
  obtain ⟨⟨a, t⟩, h0, h15, rfl⟩ := h
  have := keys38 ⟨a.toNat, by simp at h15; omega⟩ t
  have e : ((a.toNat : Nat) : Int) = a := Int.toNat_of_nonneg h0
  simp only [e] at this
  exact Option.isSome_iff_exists.1 this
theorem keyInt : KeyOk Try.prog 38 KPair where
  check w em v h := by obtain ⟨l, hl⟩ := h.key; exact (Maps.Keyed.of_law law38).check w em hl
  find w x h es hes := by
    obtain ⟨l, hl⟩ := h.key
    exact (Maps.Keyed.of_law law38).find w hl es fun e he => (hes e he).key
  stays w v h := by obtain ⟨l, hl⟩ := h.key; exact (Maps.Keyed.of_law law38).stays w hl
theorem zero74 (w : World) : (zeroValue 74).run Try.prog w = .ok (.pointer none) w := by kernel_rfl

/-- a value as a key -/
def unkv : Value → Option Pr
  | .agg cs => match cs.toList with
    | [.int .i8 a, .bool t] => some ⟨a, t⟩
    | _ => none
  | _ => none
theorem unkv_kv (k : Pr) : unkv (kv k) = some k := rfl
theorem unkv_some {v : Value} {k : Pr} (h : unkv v = some k) : v = kv k := by
  unfold unkv at h
  split at h
  · rename_i cs
    obtain ⟨l⟩ := cs
    simp only at h
    split at h
    · obtain rfl := Option.some.inj h
      rfl
    · cases h
  · cases h
/-- the map of a list of nodes -/
def mpf (l : List Nd) (key : Value) : Option Value := (unkv key).bind fun k => (l.find? (fun n => decide (n.k = k))).map (fun n => pt n.b)
theorem mpf_kv (l : List Nd) (k : Pr) : mpf l (kv k) = (l.find? (fun n => decide (n.k = k))).map (fun n => pt n.b) := by
  unfold mpf; rw [unkv_kv]; rfl
theorem mpf_other {l : List Nd} {key : Value} (h : ¬ ∃ k, key = kv k) : mpf l key = none := by
  unfold mpf
  cases hk : unkv key with
  | none => rfl
  | some k => exact absurd ⟨k, unkv_some hk⟩ h
def MapOf (w : World) (c : Nat) (l : List Nd) : Option Nat → Prop
  | none => l = []
  | some bm => ¬ RingSet c l bm ∧ MapIs KPair w bm (mpf l) l.length
def CacheAt (w : World) (S : Nat → Prop) (c : Nat) (room : Int) (l : List Nd) (mo : Option Nat) : Prop :=
  Ring w c (.int .i64 room) (.map mo) l ∧ MapOf w c l mo ∧ (l.map (·.k)).Nodup ∧ (∀ b, RingSet c l b → S b) ∧ (∀ bm, mo = some bm → S bm) ∧ ∀ n ∈ l, 0 ≤ n.k.a ∧ n.k.a ≤ 15

theorem mpf_none {l : List Nd} {k : Pr} (h : ∀ n ∈ l, n.k ≠ k) : mpf l (kv k) = none := by
  simp only [mpf_kv, Option.map_eq_none_iff, List.find?_eq_none]
  intro n hn; simpa using h n hn

theorem mpf_some {l1 l2 : List Nd} {n : Nd} (h : ((l1 ++ n :: l2).map (·.k)).Nodup) : mpf (l1 ++ n :: l2) (kv n.k) = some (pt n.b) := by
  have : (l1 ++ n :: l2).find? (fun m => decide (m.k = n.k)) = some n := by
    rw [List.find?_append]
    have : l1.find? (fun m => decide (m.k = n.k)) = none := by
      rw [List.find?_eq_none]
      intro m hm
      simp only [List.map_append, List.map_cons, List.nodup_append] at h
      have := h.2.2 m.k (List.mem_map.2 ⟨m, hm, rfl⟩) n.k (by simp)
      simpa using this
    simp [this]
  simp [mpf_kv, this]

theorem split_key (l : List Nd) (k : Pr) : (∀ n ∈ l, n.k ≠ k) ∨ ∃ l1 n l2, l = l1 ++ n :: l2 ∧ n.k = k := by
  by_cases h : ∃ n ∈ l, n.k = k
  · obtain ⟨n, hn, hk⟩ := h
    obtain ⟨l1, l2, rfl⟩ := List.append_of_mem hn
    exact .inr ⟨l1, n, l2, rfl, hk⟩
  · exact .inl fun n hn hk => h ⟨n, hn, hk⟩

theorem NdOf {w : World} {l1 l2 : List Nd} {n : Nd} {c : Nat} {r mp : Value} (h : Ring w c r mp (l1 ++ n :: l2)) : ∃ p q, NdIs w n p q := by
  have := h.2.1
  rw [seg_app] at this
  exact ⟨_, _, this.2.1⟩

theorem keys_perm {l l' : List Nd} (hp : l.Perm l') : (l.map (·.k)).Perm (l'.map (·.k)) := hp.map _

theorem ringSet_perm {c : Nat} {l l' : List Nd} (hp : l.Perm l') (b : Nat) : RingSet c l' b ↔ RingSet c l b := by
  simp only [RingSet, (hp.map (·.b)).mem_iff]

theorem mpf_perm {l l' : List Nd} (hp : l.Perm l') (hd0 : (l.map (·.k)).Nodup) (key : Value) : mpf l' key = mpf l key := by
  by_cases hi : ∃ k, key = kv k
  · obtain ⟨k, rfl⟩ := hi
    rcases split_key l k with h | ⟨a, n, b, rfl, rfl⟩
    · rw [mpf_none h, mpf_none fun n hn => h n (hp.mem_iff.2 hn)]
    · have hm : n ∈ l' := hp.mem_iff.1 (by simp)
      obtain ⟨a', b', rfl⟩ := List.append_of_mem hm
      rw [mpf_some hd0, mpf_some ((keys_perm hp).nodup_iff.1 hd0)]
  · rw [mpf_other hi, mpf_other hi]

/-- the same nodes in another order, the ring's blocks alone turned -/
theorem CacheAt.perm {w w' : World} {S : Nat → Prop} {c : Nat} {room : Int} {l l' : List Nd} {mo : Option Nat} (h : CacheAt w S c room l mo) (hp : l.Perm l')
    (hr : Ring w' c (.int .i64 room) (.map mo) l') (ht : Turned (RingSet c l) w w') : CacheAt w' S c room l' mo := by
  obtain ⟨h1, h2, h3, h4, h5, h6⟩ := h
  refine ⟨hr, ?_, (keys_perm hp).nodup_iff.1 h3, fun b hb => h4 b ((ringSet_perm hp b).1 hb), h5, fun n hn => h6 n (hp.mem_iff.2 hn)⟩
  cases mo with
  | none => simp only [MapOf] at h2 ⊢; subst h2; exact List.nil_perm.1 hp
  | some bm =>
    refine ⟨fun z => h2.1 ((ringSet_perm hp bm).1 z), ?_⟩
    rw [← hp.length_eq]
    exact h2.2.congr (ht.block bm h2.2.lt h2.1) fun key => mpf_perm hp h3 key

theorem perm_mid (l1 l2 : List Nd) (n : Nd) : (l1 ++ n :: l2).Perm (l1 ++ l2 ++ [n]) := by
  rw [List.append_assoc]
  refine List.Perm.append_left _ ?_
  exact (List.perm_append_singleton n l2).symm

theorem ring_new {c : Nat} {w : World} {r mp : Value} {l1 l2 : List Nd} {n : Nd} (h : Ring w c r mp (l1 ++ n :: l2)) : ¬ RingSet c (l1 ++ l2) n.b := by
  have hd0 := h.2.2
  have hp : (c :: (l1 ++ n :: l2).map (·.b)).Perm (n.b :: c :: (l1 ++ l2).map (·.b)) := by
    refine List.Perm.trans ?_ (List.Perm.swap _ _ _)
    refine List.Perm.cons _ ?_
    simp only [List.map_append, List.map_cons]
    exact List.perm_middle
  have := hp.nodup_iff.1 hd0
  rw [List.nodup_cons] at this
  simpa [RingSet] using this.1

theorem turned_ring {S : Nat → Prop} {w w' : World} {c : Nat} {l _l' : List Nd} (h : Turned (RingSet c l) w w') (hl : ∀ b, RingSet c l b → S b) : Turned S w w' :=
  h.mono fun i _ q => hl i q

open Classical in
theorem mpf_del {l1 l2 : List Nd} {n : Nd} (h : ((l1 ++ n :: l2).map (·.k)).Nodup) (key : Value) :
    mpf (l1 ++ l2) key = if key = kv n.k then none else mpf (l1 ++ n :: l2) key := by
  have hn : ∀ m ∈ l1 ++ l2, m.k ≠ n.k := by
    have hp : ((l1 ++ n :: l2).map (·.k)).Perm (n.k :: (l1 ++ l2).map (·.k)) := by
      simp only [List.map_append, List.map_cons]; exact List.perm_middle
    have := (List.nodup_cons.1 (hp.nodup_iff.1 h)).1
    intro m hm q
    exact this (List.mem_map.2 ⟨m, hm, q⟩)
  split
  · subst_vars; exact mpf_none hn
  · rename_i hk
    by_cases hi : ∃ k, key = kv k
    · obtain ⟨k, rfl⟩ := hi
      have hk' : n.k ≠ k := fun z => hk (by rw [z])
      simp only [mpf_kv, List.find?_append, List.find?_cons]
      rw [show (decide (n.k = k)) = false by simpa using hk']
    · rw [mpf_other hi, mpf_other hi]

theorem CacheAt.del {w w1 w2 : World} {S : Nat → Prop} {c bm : Nat} {room : Int} {l1 l2 : List Nd} {n : Nd} (h : CacheAt w S c room (l1 ++ n :: l2) (some bm))
    (hr : Ring w1 c (.int .i64 room) (.map (some bm)) (l1 ++ l2)) {m : Value → Option Value} {sz : Nat}
    (hm : MapIs KPair w2 bm m sz) (hme : ∀ key, mpf (l1 ++ l2) key = m key) (hsz : sz = (l1 ++ l2).length) (ht2 : Turned (· = bm) w1 w2) : CacheAt w2 S c room (l1 ++ l2) (some bm) := by
  obtain ⟨h1, h2, h3, h4, h5, h6⟩ := h
  have hsub : ∀ b, RingSet c (l1 ++ l2) b → RingSet c (l1 ++ n :: l2) b := by
    intro b hb
    simp only [RingSet, List.map_append, List.map_cons, List.mem_append, List.mem_cons] at hb ⊢
    rcases hb with hb | hb | hb <;> simp [hb]
  have hbm : ∀ b, RingSet c (l1 ++ l2) b → ¬ b = bm := fun b hb q => h2.1 (q ▸ hsub b hb)
  refine ⟨⟨hr.1.turned ht2 (hbm c (.inl rfl)), Seg.turned ht2 hr.2.1 fun m hm => hbm m.b (.inr (List.mem_map.2 ⟨m, hm, rfl⟩)), hr.2.2⟩, ⟨fun q => h2.1 (hsub _ q), ?_⟩, ?_, fun b hb => h4 b (hsub b hb), h5, fun m hm => h6 m (by rcases List.mem_append.1 hm with q | q <;> simp [q])⟩
  · rw [← hsz]; exact hm.congr rfl hme
  · refine List.Nodup.sublist ?_ h3
    simp

theorem Ring.turned {S : Nat → Prop} {w w' : World} {c : Nat} {r mp : Value} {l : List Nd} (h : Ring w c r mp l) (ht : Turned S w w') (hS : ∀ b, RingSet c l b → ¬ S b) : Ring w' c r mp l :=
  ⟨h.1.turned ht (hS c (.inl rfl)), Seg.turned ht h.2.1 fun m hm => hS m.b (.inr (List.mem_map.2 ⟨m, hm, rfl⟩)), h.2.2⟩

theorem CacheAt.turned {S T : Nat → Prop} {w w' : World} {c : Nat} {room : Int} {l : List Nd} {mo : Option Nat} (h : CacheAt w S c room l mo) (ht : Turned T w w') (hS : ∀ b, S b → ¬ T b) : CacheAt w' S c room l mo := by
  obtain ⟨h1, h2, h3, h4, h5, h6⟩ := h
  refine ⟨h1.turned ht fun b hb => hS b (h4 b hb), ?_, h3, h4, h5, h6⟩
  cases mo with
  | none => exact h2
  | some bm => exact ⟨h2.1, h2.2.congr (ht.block bm h2.2.lt (hS bm (h5 bm rfl))) fun _ => rfl⟩

theorem CacheAt.drew {S : Nat → Prop} {w : World} {c : Nat} {room : Int} {l : List Nd} {mo : Option Nat} (h : CacheAt w S c room l mo) : CacheAt w.drew S c room l mo :=
  h.turned (Turned.drew (fun _ => False) w) fun _ _ q => q

theorem CacheAt.widen {S T : Nat → Prop} {w : World} {c : Nat} {room : Int} {l : List Nd} {mo : Option Nat} (h : CacheAt w S c room l mo) (hS : ∀ b, S b → T b) : CacheAt w T c room l mo :=
  ⟨h.1, h.2.1, h.2.2.1, fun b hb => hS b (h.2.2.2.1 b hb), fun b hb => hS b (h.2.2.2.2.1 b hb), h.2.2.2.2.2⟩

theorem Ring.lt {w : World} {c : Nat} {r mp : Value} {l : List Nd} (h : Ring w c r mp l) {b : Nat} (hb : RingSet c l b) : b < w.heap.size := by
  rcases hb with rfl | hb
  · exact lt_of_block h.1
  · obtain ⟨n, hn, rfl⟩ := List.mem_map.1 hb
    obtain ⟨l1, l2, rfl⟩ := List.append_of_mem hn
    obtain ⟨p, q, h⟩ := NdOf h
    exact lt_of_block h

open Classical in
theorem mpf_put {l : List Nd} {nd : Nd} (hk : ∀ n ∈ l, n.k ≠ nd.k) (key : Value) :
    mpf (l ++ [nd]) key = if key = kv nd.k then some (pt nd.b) else mpf l key := by
  split
  · subst_vars
    simp only [mpf_kv, List.find?_append]
    have : l.find? (fun n => decide (n.k = nd.k)) = none := by
      rw [List.find?_eq_none]; intro n hn; simpa using hk n hn
    simp [this]
  · rename_i h
    by_cases hi : ∃ k, key = kv k
    · obtain ⟨k, rfl⟩ := hi
      have hk' : nd.k ≠ k := fun z => h (by rw [z])
      simp only [mpf_kv, List.find?_append, List.find?_cons]
      rw [show (decide (nd.k = k)) = false by simpa using hk']
      simp
    · rw [mpf_other hi, mpf_other hi]

end Go.Proofs.Ytbhafcmdmpebiaa.Pair
