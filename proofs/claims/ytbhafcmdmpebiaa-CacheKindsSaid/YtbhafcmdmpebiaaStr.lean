/- The string cache: what its methods answer and leave (the int cache's text, turned). -/
import Derived.Test.YtbhafcmdmpebiaaRows
import Derived.Test.YtbhafcmdmpebiaaSl
import Derived.BigQuiet
import Derived.Deep.QuietTactic
namespace Go.Proofs.Ytbhafcmdmpebiaa.Str
open Go.RowKit Go.Mine

abbrev pt (b : Nat) : Value := .pointer (some ⟨b, 0, none⟩)
def Blk (w : World) (b : Nat) (c : Array Value) (T : TypeId) : Prop := w.heap[b]? = some (.cells c T (0, 0))

set_option maxHeartbeats 1000000 in
theorem unhang_mid (c n p q : Nat) (k0 v0 xk0 xv0 o1 yk0 yv0 n2 : Value) (w : World)
    (hnp : n ≠ p)
    (hnq : n ≠ q)
    (hpq : p ≠ q)
    (hn : Blk w n #[k0, v0, pt p, pt q] 90)
    (hp : Blk w p #[xk0, xv0, o1, pt n] 90)
    (hq : Blk w q #[yk0, yv0, pt n, n2] 90) :
    Calls Try.prog 42 #[pt c, pt n] w fun e w' => e = .returned (.tuple #[]) ∧ Blk w' n #[k0, v0, .pointer none, .pointer none] 90 ∧ Blk w' p #[xk0, xv0, o1, pt q] 90 ∧ Blk w' q #[yk0, yv0, pt p, n2] 90 ∧ Turned (fun b => b = n ∨ b = p ∨ b = q) w w' ∧ w'.heap.size = w.heap.size := by
  have a0 := cell_of hn 2 _ rfl
  have b0 := free_of hn 2
  have a1 := cell_of hn 3 _ rfl
  have b1 := free_of hn 3
  have a2 := cell_of hp 3 _ rfl
  have b2 := free_of hp 3
  have a3 := cell_of hq 2 _ rfl
  have b3 := free_of hq 2
  go_enter Try.func42, Try.ntmps42
  go_wp2
  go_region
  go_wp2
  go_region
  go_wp2
  go_end0
  refine ⟨rfl, ?_, ?_, ?_, ?t, ?_⟩
  case t => repeat (first | exact Turned.refl _ _ | refine Turned.draw ?_ | refine Turned.set ?_ (by simp) _)
  all_goals (unfold Blk at *; simp [heap_setCell_if, heap_drew, hn, hp, hq, hnp, hnq, hpq, hnp.symm, hnq.symm, hpq.symm])

set_option maxHeartbeats 1000000 in
theorem unhang_first (c n q : Nat) (r mp el yo k0 v0 yk0 yv0 n2 : Value) (w : World)
    (hcn : c ≠ n)
    (hcq : c ≠ q)
    (hnq : n ≠ q)
    (hc : Blk w c #[r, mp, el, yo] 87)
    (hn : Blk w n #[k0, v0, .pointer none, pt q] 90)
    (hq : Blk w q #[yk0, yv0, pt n, n2] 90) :
    Calls Try.prog 42 #[pt c, pt n] w fun e w' => e = .returned (.tuple #[]) ∧ Blk w' c #[r, mp, pt q, yo] 87 ∧ Blk w' n #[k0, v0, .pointer none, .pointer none] 90 ∧ Blk w' q #[yk0, yv0, .pointer none, n2] 90 ∧ Turned (fun b => b = c ∨ b = n ∨ b = q) w w' ∧ w'.heap.size = w.heap.size := by
  have a0 := cell_of hc 2 _ rfl
  have b0 := free_of hc 2
  have a1 := cell_of hn 2 _ rfl
  have b1 := free_of hn 2
  have a2 := cell_of hn 3 _ rfl
  have b2 := free_of hn 3
  have a3 := cell_of hq 2 _ rfl
  have b3 := free_of hq 2
  go_enter Try.func42, Try.ntmps42
  go_wp2
  go_region
  go_wp2
  go_end0
  refine ⟨rfl, ?_, ?_, ?_, ?t, ?_⟩
  case t => repeat (first | exact Turned.refl _ _ | refine Turned.draw ?_ | refine Turned.set ?_ (by simp) _)
  all_goals (unfold Blk at *; simp [heap_setCell_if, heap_drew, hc, hn, hq, hcn, hcq, hnq, hcn.symm, hcq.symm, hnq.symm])

set_option maxHeartbeats 1000000 in
theorem unhang_last (c n p : Nat) (r mp el yo k0 v0 xk0 xv0 o1 : Value) (w : World)
    (hcn : c ≠ n)
    (hcp : c ≠ p)
    (hnp : n ≠ p)
    (hc : Blk w c #[r, mp, el, yo] 87)
    (hn : Blk w n #[k0, v0, pt p, .pointer none] 90)
    (hp : Blk w p #[xk0, xv0, o1, pt n] 90) :
    Calls Try.prog 42 #[pt c, pt n] w fun e w' => e = .returned (.tuple #[]) ∧ Blk w' c #[r, mp, el, pt p] 87 ∧ Blk w' n #[k0, v0, .pointer none, .pointer none] 90 ∧ Blk w' p #[xk0, xv0, o1, .pointer none] 90 ∧ Turned (fun b => b = c ∨ b = n ∨ b = p) w w' ∧ w'.heap.size = w.heap.size := by
  have a0 := cell_of hc 3 _ rfl
  have b0 := free_of hc 3
  have a1 := cell_of hn 2 _ rfl
  have b1 := free_of hn 2
  have a2 := cell_of hn 3 _ rfl
  have b2 := free_of hn 3
  have a3 := cell_of hp 3 _ rfl
  have b3 := free_of hp 3
  go_enter Try.func42, Try.ntmps42
  go_wp2
  go_region
  go_wp2
  go_end0
  refine ⟨rfl, ?_, ?_, ?_, ?t, ?_⟩
  case t => repeat (first | exact Turned.refl _ _ | refine Turned.draw ?_ | refine Turned.set ?_ (by simp) _)
  all_goals (unfold Blk at *; simp [heap_setCell_if, heap_drew, hc, hn, hp, hcn, hcp, hnp, hcn.symm, hcp.symm, hnp.symm])

set_option maxHeartbeats 1000000 in
theorem unhang_only (c n : Nat) (r mp el yo k0 v0 : Value) (w : World)
    (hcn : c ≠ n)
    (hc : Blk w c #[r, mp, el, yo] 87)
    (hn : Blk w n #[k0, v0, .pointer none, .pointer none] 90) :
    Calls Try.prog 42 #[pt c, pt n] w fun e w' => e = .returned (.tuple #[]) ∧ Blk w' c #[r, mp, .pointer none, .pointer none] 87 ∧ Blk w' n #[k0, v0, .pointer none, .pointer none] 90 ∧ Turned (fun b => b = c ∨ b = n) w w' ∧ w'.heap.size = w.heap.size := by
  have a0 := cell_of hc 2 _ rfl
  have b0 := free_of hc 2
  have a1 := cell_of hc 3 _ rfl
  have b1 := free_of hc 3
  have a2 := cell_of hn 2 _ rfl
  have b2 := free_of hn 2
  have a3 := cell_of hn 3 _ rfl
  have b3 := free_of hn 3
  go_enter Try.func42, Try.ntmps42
  go_wp2
  go_end0
  refine ⟨rfl, ?_, ?_, ?t, ?_⟩
  case t => repeat (first | exact Turned.refl _ _ | refine Turned.draw ?_ | refine Turned.set ?_ (by simp) _)
  all_goals (unfold Blk at *; simp [heap_setCell_if, hc, hn, hcn, hcn.symm])

set_option maxHeartbeats 1000000 in
theorem hang_first (c n : Nat) (r mp k0 v0 o x : Value) (w : World)
    (hcn : c ≠ n)
    (hc : Blk w c #[r, mp, x, .pointer none] 87)
    (hn : Blk w n #[k0, v0, o, .pointer none] 90) :
    Calls Try.prog 43 #[pt c, pt n] w fun e w' => e = .returned (.tuple #[]) ∧ Blk w' c #[r, mp, pt n, pt n] 87 ∧ Blk w' n #[k0, v0, .pointer none, .pointer none] 90 ∧ Turned (fun b => b = c ∨ b = n) w w' ∧ w'.heap.size = w.heap.size := by
  have a0 := cell_of hc 2 _ rfl
  have b0 := free_of hc 2
  have a1 := cell_of hc 3 _ rfl
  have b1 := free_of hc 3
  have a2 := cell_of hn 2 _ rfl
  have b2 := free_of hn 2
  go_enter Try.func43, Try.ntmps43
  go_wp2
  go_end0
  refine ⟨rfl, ?_, ?_, ?t, ?_⟩
  case t => repeat (first | exact Turned.refl _ _ | refine Turned.draw ?_ | refine Turned.set ?_ (by simp) _)
  all_goals (unfold Blk at *; simp [heap_setCell_if, hc, hn, hcn, hcn.symm])

set_option maxHeartbeats 1000000 in
theorem hang_more (c n p : Nat) (r mp el k0 v0 o xk0 xv0 o1 : Value) (w : World)
    (hcn : c ≠ n)
    (hcp : c ≠ p)
    (hnp : n ≠ p)
    (hc : Blk w c #[r, mp, el, pt p] 87)
    (hn : Blk w n #[k0, v0, o, .pointer none] 90)
    (hp : Blk w p #[xk0, xv0, o1, .pointer none] 90) :
    Calls Try.prog 43 #[pt c, pt n] w fun e w' => e = .returned (.tuple #[]) ∧ Blk w' c #[r, mp, el, pt n] 87 ∧ Blk w' n #[k0, v0, pt p, .pointer none] 90 ∧ Blk w' p #[xk0, xv0, o1, pt n] 90 ∧ Turned (fun b => b = c ∨ b = n ∨ b = p) w w' ∧ w'.heap.size = w.heap.size := by
  have a0 := cell_of hc 3 _ rfl
  have b0 := free_of hc 3
  have a1 := cell_of hn 2 _ rfl
  have b1 := free_of hn 2
  have a2 := cell_of hp 3 _ rfl
  have b2 := free_of hp 3
  go_enter Try.func43, Try.ntmps43
  go_wp2
  go_end0
  refine ⟨rfl, ?_, ?_, ?_, ?t, ?_⟩
  case t => repeat (first | exact Turned.refl _ _ | refine Turned.draw ?_ | refine Turned.set ?_ (by simp) _)
  all_goals (unfold Blk at *; simp [heap_setCell_if, hc, hn, hp, hcn, hcp, hnp, hcn.symm, hcp.symm, hnp.symm])



structure Nd where
  b : Nat
  k : ByteArray
  v : Int

def hd : List Nd → Option Nat → Option Nat
  | [], nx => nx
  | m :: _, _ => some m.b
def lst : List Nd → Option Nat → Option Nat
  | [], pv => pv
  | m :: r, _ => lst r (some m.b)
def pto : Option Nat → Value
  | none => .pointer none
  | some b => pt b
def NdIs (w : World) (n : Nd) (pv nx : Value) : Prop := Blk w n.b #[.string n.k, .int .i64 n.v, pv, nx] 90
def Seg (w : World) : List Nd → Option Nat → Option Nat → Prop
  | [], _, _ => True
  | n :: r, pv, nx => NdIs w n (pto pv) (pto (hd r nx)) ∧ Seg w r (some n.b) nx

theorem hd_cons (m : Nd) (r : List Nd) (nx : Option Nat) : hd (m :: r) nx = some m.b := rfl
theorem hd_nil (nx : Option Nat) : hd [] nx = nx := rfl
theorem lst_cons (m : Nd) (r : List Nd) (pv : Option Nat) : lst (m :: r) pv = lst r (some m.b) := rfl
theorem lst_nil (pv : Option Nat) : lst [] pv = pv := rfl
theorem pto_some (b : Nat) : pto (some b) = pt b := rfl
theorem hd_app (l1 l2 : List Nd) (nx : Option Nat) : hd (l1 ++ l2) nx = hd l1 (hd l2 nx) := by cases l1 <;> rfl
theorem lst_app : ∀ (l1 l2 : List Nd) (pv : Option Nat), lst (l1 ++ l2) pv = lst l2 (lst l1 pv)
  | [], _, _ => rfl
  | m :: r, l2, _pv => lst_app r l2 (some m.b)
theorem seg_app (w : World) : ∀ (l1 l2 : List Nd) (pv nx : Option Nat), Seg w (l1 ++ l2) pv nx ↔ Seg w l1 pv (hd l2 nx) ∧ Seg w l2 (lst l1 pv) nx
  | [], _, _, _ => by simp [Seg, lst]
  | m :: r, l2, pv, nx => by simp only [List.cons_append, Seg, seg_app w r l2, hd_app, lst, and_assoc]
theorem lst_snoc (l : List Nd) (n : Nd) (pv : Option Nat) : lst (l ++ [n]) pv = some n.b := by rw [lst_app]; rfl

theorem Blk.turned {S : Nat → Prop} {w w' : World} {b : Nat} {c : Array Value} {T : TypeId} (h : Blk w b c T) (ht : Turned S w w') (hS : ¬ S b) : Blk w' b c T :=
  (ht.block b (lt_of_block h) hS).trans h
theorem Seg.turned {S : Nat → Prop} {w w' : World} (ht : Turned S w w') : ∀ {l : List Nd} {pv nx : Option Nat}, Seg w l pv nx → (∀ n ∈ l, ¬ S n.b) → Seg w' l pv nx
  | [], _, _, _, _ => trivial
  | n :: _, _, _, h, hS => ⟨h.1.turned ht (hS n (.head _)), Seg.turned ht h.2 fun m hm => hS m (.tail _ hm)⟩

def Ring (w : World) (c : Nat) (r mp : Value) (l : List Nd) : Prop :=
  Blk w c #[r, mp, pto (hd l none), pto (lst l none)] 87 ∧ Seg w l none none ∧ (c :: l.map (·.b)).Nodup

def RingSet (c : Nat) (l : List Nd) (b : Nat) : Prop := b = c ∨ b ∈ l.map (·.b)

theorem split_last {α : Type} (l : List α) : l = [] ∨ ∃ r x, l = r ++ [x] := by
  rcases List.eq_nil_or_concat l with h | ⟨r, x, h⟩
  · exact .inl h
  · exact .inr ⟨r, x, by simpa using h⟩

theorem unhang_ring (c : Nat) (r mp : Value) (l1 l2 : List Nd) (n : Nd) (w : World) (h : Ring w c r mp (l1 ++ n :: l2)) :
    Calls Try.prog 42 #[pt c, pt n.b] w fun e w' => e = .returned (.tuple #[]) ∧ Ring w' c r mp (l1 ++ l2) ∧ NdIs w' n (.pointer none) (.pointer none) ∧
      Turned (RingSet c (l1 ++ n :: l2)) w w' ∧ w'.heap.size = w.heap.size := by
  obtain ⟨hb, hs, hd0⟩ := h
  have hdist := hd0
  rw [seg_app] at hs
  obtain ⟨h1, h2, h3⟩ := hs
  simp only [List.map_append, List.map_cons, List.nodup_cons, List.mem_append, List.mem_cons, List.nodup_append, not_or, List.mem_map] at hd0
  rcases split_last l1 with rfl | ⟨a, p, rfl⟩
  · cases l2 with
    | nil =>
      refine (unhang_only c n.b _ _ _ _ _ _ w (by intro q; simp [q] at hdist) hb h2).mono ?_
      rintro e w' ⟨he, g1, g2, g3, g4⟩
      exact ⟨he, ⟨g1, trivial, by simp⟩, g2, g3.mono fun i _ q => by rcases q with rfl | rfl <;> simp [RingSet], g4⟩
    | cons q t =>
      have e1 : c ≠ n.b := by intro q; simp [q] at hdist
      have e2 : c ≠ q.b := by intro z; simp [z] at hdist
      have e3 : n.b ≠ q.b := by intro z; simp [z] at hdist
      refine (unhang_first c n.b q.b _ _ _ _ _ _ _ _ _ w e1 e2 e3 hb h2 h3.1).mono ?_
      rintro e w' ⟨he, g1, g2, g3, g4, g5⟩
      refine ⟨he, ⟨g1, ⟨g3, Seg.turned g4 h3.2 ?_⟩, ?_⟩, g2, g4.mono fun i _ z => by rcases z with rfl | rfl | rfl <;> simp [RingSet], g5⟩
      · intro m hm z
        have hm' : m.b ∈ t.map (·.b) := List.mem_map.2 ⟨m, hm, rfl⟩
        simp only [List.nil_append, List.map_cons, List.nodup_cons, List.mem_cons, not_or] at hdist
        rcases z with z | z | z <;> rw [z] at hm'
        · exact hdist.1.2.2 hm'
        · exact hdist.2.1.2 hm'
        · exact hdist.2.2.1 hm'
      · simp only [List.nil_append, List.map_cons, List.nodup_cons, List.mem_cons, not_or] at hdist ⊢
        exact ⟨⟨hdist.1.2.1, hdist.1.2.2⟩, hdist.2.2⟩
  · rw [seg_app] at h1
    obtain ⟨ha, hp, -⟩ := h1
    have e1 : c ≠ n.b := by intro q; simp [q] at hdist
    have e4 : c ≠ p.b := by intro q; simp [q] at hdist
    have e5 : n.b ≠ p.b := by
      intro z
      simp only [List.append_assoc, List.map_append, List.map_cons, List.map_nil, List.nodup_cons, List.nodup_append] at hdist
      simp [z] at hdist
    rw [lst_snoc] at h2
    cases l2 with
    | nil =>
      refine (unhang_last c n.b p.b _ _ _ _ _ _ _ _ _ w e1 e4 e5 (by simpa only [List.append_assoc, List.cons_append, List.nil_append, List.append_nil, hd_app, hd_cons, hd_nil, lst_app, lst_cons, lst_nil, pto_some] using hb) h2 hp).mono ?_
      rintro e w' ⟨he, g1, g2, g3, g4, g5⟩
      have hna : ∀ m ∈ a, ¬ (m.b = c ∨ m.b = n.b ∨ m.b = p.b) := by
        intro m hm z
        have hm' : m.b ∈ a.map (·.b) := List.mem_map.2 ⟨m, hm, rfl⟩
        simp only [List.append_assoc, List.map_append, List.map_cons, List.map_nil, List.nodup_cons, List.nodup_append, List.mem_append, List.mem_cons, not_or] at hdist
        rcases z with z | z | z <;> rw [z] at hm'
        · exact hdist.1.1 hm'
        · exact hdist.2.2.2 _ hm' n.b (by simp) rfl
        · exact hdist.2.2.2 _ hm' p.b (by simp) rfl
      refine ⟨he, ⟨?_, ?_, ?_⟩, g2, g4.mono fun i _ z => by rcases z with rfl | rfl | rfl <;> simp [RingSet], g5⟩
      · simpa only [List.append_assoc, List.cons_append, List.nil_append, List.append_nil, hd_app, hd_cons, hd_nil, lst_app, lst_cons, lst_nil, pto_some] using g1
      · rw [List.append_nil, seg_app]
        exact ⟨Seg.turned g4 (by simpa [hd] using ha) hna, g3, trivial⟩
      · simp only [List.append_nil]
        refine List.Nodup.sublist ?_ hdist
        simp
    | cons q t =>
      have e2 : c ≠ q.b := by intro z; simp [z] at hdist
      have e3 : n.b ≠ q.b := by
        intro z
        simp only [List.append_assoc, List.map_append, List.map_cons, List.map_nil, List.nodup_cons, List.nodup_append] at hdist
        simp [z] at hdist
      have e6 : p.b ≠ q.b := by
        intro z
        simp only [List.append_assoc, List.map_append, List.map_cons, List.map_nil, List.nodup_cons, List.nodup_append] at hdist
        simp [z] at hdist
      refine (unhang_mid c n.b p.b q.b _ _ _ _ _ _ _ _ w e5 e3 e6 h2 hp h3.1).mono ?_
      rintro e w' ⟨he, g2, g3, g1, g4, g5⟩
      simp only [List.append_assoc, List.map_append, List.map_cons, List.nodup_cons, List.nodup_append, List.mem_append, List.mem_cons, not_or, List.singleton_append] at hdist
      have hna : ∀ m ∈ a, ¬ (m.b = n.b ∨ m.b = p.b ∨ m.b = q.b) := by
        intro m hm z
        have hm' : m.b ∈ a.map (·.b) := List.mem_map.2 ⟨m, hm, rfl⟩
        rcases z with z | z | z <;> rw [z] at hm'
        · exact hdist.2.2.2 _ hm' n.b (by simp) rfl
        · exact hdist.2.2.2 _ hm' p.b (by simp) rfl
        · exact hdist.2.2.2 _ hm' q.b (by simp) rfl
      have hnt : ∀ m ∈ t, ¬ (m.b = n.b ∨ m.b = p.b ∨ m.b = q.b) := by
        intro m hm z
        have hm' : m.b ∈ t.map (·.b) := List.mem_map.2 ⟨m, hm, rfl⟩
        have hd2 := hdist.2.2.1
        rcases z with z | z | z <;> rw [z] at hm'
        · exact hd2.2.1.2 hm'
        · exact hd2.1.2.2 hm'
        · exact hd2.2.2.1 hm'
      refine ⟨he, ⟨?_, ?_, ?_⟩, g2, g4.mono fun i _ z => by rcases z with rfl | rfl | rfl <;> simp [RingSet], g5⟩
      · have hb' : Blk w' c #[r, mp, pto (hd (a ++ [p] ++ n :: q :: t) none), pto (lst (a ++ [p] ++ n :: q :: t) none)] 87 := hb.turned g4 (by rintro (z | z | z); exact e1 z; exact e4 z; exact e2 z)
        simpa only [List.append_assoc, List.cons_append, List.nil_append, List.append_nil, hd_app, hd_cons, hd_nil, lst_app, lst_cons, lst_nil, pto_some] using hb'
      · rw [List.append_assoc, seg_app, List.singleton_append]
        exact ⟨Seg.turned g4 (by simpa [hd] using ha) hna, g3, g1, Seg.turned g4 h3.2 hnt⟩
      · simp only [List.append_assoc, List.map_append, List.map_cons, List.nodup_cons, List.nodup_append, List.mem_append, List.mem_cons, not_or, List.singleton_append]
        refine ⟨⟨hdist.1.1, hdist.1.2.1, hdist.1.2.2.2.1, hdist.1.2.2.2.2⟩, hdist.2.1, ⟨⟨hdist.2.2.1.1.2.1, hdist.2.2.1.1.2.2⟩, hdist.2.2.1.2.2⟩, ?_⟩
        intro x hx y hy
        exact hdist.2.2.2 x hx y (by rcases hy with hy | hy | hy <;> simp [hy])

theorem hang_ring (c : Nat) (r mp o : Value) (l : List Nd) (n : Nd) (w : World) (h : Ring w c r mp l) (hn : NdIs w n o (.pointer none)) (hnew : ¬ RingSet c l n.b) :
    Calls Try.prog 43 #[pt c, pt n.b] w fun e w' => e = .returned (.tuple #[]) ∧ Ring w' c r mp (l ++ [n]) ∧
      Turned (RingSet c (l ++ [n])) w w' ∧ w'.heap.size = w.heap.size := by
  obtain ⟨hb, hs, hdist⟩ := h
  simp only [RingSet, not_or] at hnew
  rcases split_last l with rfl | ⟨a, p, rfl⟩
  · refine (hang_first c n.b _ _ _ _ _ _ w (Ne.symm hnew.1) hb hn).mono ?_
    rintro e w' ⟨he, g1, g2, g3, g4⟩
    exact ⟨he, ⟨g1, ⟨g2, trivial⟩, by simp [Ne.symm hnew.1]⟩, g3.mono fun i _ q => by rcases q with rfl | rfl <;> simp [RingSet], g4⟩
  · rw [seg_app] at hs
    obtain ⟨ha, hp, -⟩ := hs
    have e4 : c ≠ p.b := by intro q; simp [q] at hdist
    have e5 : n.b ≠ p.b := by intro q; simp [q] at hnew
    refine (hang_more c n.b p.b _ _ _ _ _ _ _ _ _ w (Ne.symm hnew.1) e4 e5 (by simpa only [List.append_assoc, List.cons_append, List.nil_append, List.append_nil, hd_app, hd_cons, hd_nil, lst_app, lst_cons, lst_nil, pto_some] using hb) hn hp).mono ?_
    rintro e w' ⟨he, g1, g2, g3, g4, g5⟩
    simp only [List.map_append, List.map_cons, List.map_nil, List.nodup_cons, List.nodup_append, List.mem_append, List.mem_cons, not_or, List.not_mem_nil, not_false_eq_true] at hdist hnew
    have hna : ∀ m ∈ a, ¬ (m.b = c ∨ m.b = n.b ∨ m.b = p.b) := by
      intro m hm z
      have hm' : m.b ∈ a.map (·.b) := List.mem_map.2 ⟨m, hm, rfl⟩
      rcases z with z | z | z <;> rw [z] at hm'
      · exact hdist.1.1 hm'
      · exact hnew.2.1 hm'
      · exact hdist.2.2.2 _ hm' p.b (by simp) rfl
    refine ⟨he, ⟨?_, ?_, ?_⟩, g4.mono fun i _ z => by rcases z with rfl | rfl | rfl <;> simp [RingSet], g5⟩
    · simpa only [List.append_assoc, List.cons_append, List.nil_append, List.append_nil, hd_app, hd_cons, hd_nil, lst_app, lst_cons, lst_nil, pto_some] using g1
    · rw [List.append_assoc, seg_app, List.singleton_append]
      exact ⟨Seg.turned g4 (by simpa [hd] using ha) hna, g3, by rw [show lst (a ++ [p]) none = some p.b from lst_snoc _ _ _] at *; exact ⟨g2, trivial⟩⟩
    · simp only [List.append_assoc, List.map_append, List.map_cons, List.map_nil, List.nodup_cons, List.nodup_append, List.mem_append, List.mem_cons, not_or, List.singleton_append, List.not_mem_nil, not_false_eq_true]
      refine ⟨⟨hdist.1.1, e4, Ne.symm hnew.1, trivial⟩, hdist.2.1, ?_, ?_⟩
      · simp [Ne.symm e5]
      · intro x hx y hy
        rcases hy with hy | hy | hy
        · exact hdist.2.2.2 x hx y (by simp [hy])
        · intro z; subst z; subst hy; exact hnew.2.1 hx
        · simp at hy



abbrev KInt : Value → Prop := MapKept.IsKey .string
theorem kk (k : ByteArray) : KInt (.string k) := trivial
theorem keyInt : KeyOk Try.prog 9 KInt := plain_keyOk Try.underlying9
theorem zero85 (w : World) : (zeroValue 85).run Try.prog w = .ok (.pointer none) w := by kernel_rfl

/-- the map of a list of nodes -/
def mpf (l : List Nd) : Value → Option Value
  | .string k => (l.find? (fun n => decide (n.k = k))).map (fun n => pt n.b)
  | _ => none

/-- what stands in the field for the map -/
def MapOf (w : World) (c : Nat) (l : List Nd) : Option Nat → Prop
  | none => l = []
  | some bm => ¬ RingSet c l bm ∧ MapIs KInt w bm (mpf l) l.length

def kvs (l : List Nd) : List (ByteArray × Int) := l.map fun n => (n.k, n.v)

def CacheAt (w : World) (S : Nat → Prop) (c : Nat) (room : Int) (l : List Nd) (mo : Option Nat) : Prop :=
  Ring w c (.int .i64 room) (.map mo) l ∧ MapOf w c l mo ∧ (l.map (·.k)).Nodup ∧ (∀ b, RingSet c l b → S b) ∧ (∀ bm, mo = some bm → S bm)

def CacheIs (w : World) (S : Nat → Prop) (c : Nat) (room : Int) (kv : List (ByteArray × Int)) : Prop := ∃ l mo, CacheAt w S c room l mo ∧ kvs l = kv

theorem find_at (c : Nat) (room : Int) (l : List Nd) (mo : Option Nat) (S : Nat → Prop) (k : ByteArray) (w : World) (h : CacheAt w S c room l mo) :
    Calls Try.prog 41 #[pt c, .string k] w fun e w' => e = .returned ((mpf l (.string k)).getD (.pointer none)) ∧ w = w' := by
  obtain ⟨⟨hb, hs, hd0⟩, hm, -, -, -⟩ := h
  have c1 := cell_of hb 1 _ rfl
  cases mo with
  | none =>
    simp only [MapOf] at hm
    subst hm
    have hl := fun w => look_nil keyInt Try.underlying84 (zero85 w) (x := .string k) (w := w) (kk _)
    go_enter Try.func41, Try.ntmps41
    go_wp2
    go_ret
    exact ⟨rfl, rfl⟩
  | some bm =>
    have hl := hm.2.look keyInt Try.underlying84 (zero85 w) (x := .string k) (kk _)
    obtain ⟨r, hr⟩ : ∃ r, r = (mpf l (.string k)).getD (.pointer none) := ⟨_, rfl⟩
    rw [← hr] at hl ⊢
    clear hr
    go_enter Try.func41, Try.ntmps41
    go_wp2
    go_ret
    exact ⟨rfl, rfl⟩

theorem mpf_none {l : List Nd} {k : ByteArray} (h : ∀ n ∈ l, n.k ≠ k) : mpf l (.string k) = none := by
  simp only [mpf, Option.map_eq_none_iff, List.find?_eq_none]
  intro n hn; simpa using h n hn
theorem mpf_some {l1 l2 : List Nd} {n : Nd} (h : ((l1 ++ n :: l2).map (·.k)).Nodup) : mpf (l1 ++ n :: l2) (.string n.k) = some (pt n.b) := by
  have : (l1 ++ n :: l2).find? (fun m => decide (m.k = n.k)) = some n := by
    rw [List.find?_append]
    have : l1.find? (fun m => decide (m.k = n.k)) = none := by
      rw [List.find?_eq_none]
      intro m hm
      simp only [List.map_append, List.map_cons, List.nodup_append] at h
      have := h.2.2 m.k (List.mem_map.2 ⟨m, hm, rfl⟩) n.k (by simp)
      simpa using this
    simp [this]
  simp [mpf, this]

theorem split_key (l : List Nd) (k : ByteArray) : (∀ n ∈ l, n.k ≠ k) ∨ ∃ l1 n l2, l = l1 ++ n :: l2 ∧ n.k = k := by
  by_cases h : ∃ n ∈ l, n.k = k
  · obtain ⟨n, hn, hk⟩ := h
    obtain ⟨l1, l2, rfl⟩ := List.append_of_mem hn
    exact .inr ⟨l1, n, l2, rfl, hk⟩
  · exact .inl fun n hn hk => h ⟨n, hn, hk⟩

/-- find, where the key is not there -/
theorem find_none {c : Nat} {room : Int} {l : List Nd} {mo : Option Nat} {S : Nat → Prop} {k : ByteArray} {w : World} (h : CacheAt w S c room l mo) (hk : ∀ n ∈ l, n.k ≠ k) :
    Calls Try.prog 41 #[pt c, .string k] w fun e w' => e = .returned (.pointer none) ∧ w = w' := by
  have := find_at c room l mo S k w h
  rw [mpf_none hk] at this
  exact this
theorem find_some {c : Nat} {room : Int} {l1 l2 : List Nd} {n : Nd} {mo : Option Nat} {S : Nat → Prop} {w : World} (h : CacheAt w S c room (l1 ++ n :: l2) mo) :
    Calls Try.prog 41 #[pt c, .string n.k] w fun e w' => e = .returned (pt n.b) ∧ w = w' := by
  have := find_at c room _ mo S n.k w h
  rw [mpf_some h.2.2.1] at this
  exact this

theorem peek_none {c : Nat} {room : Int} {l : List Nd} {mo : Option Nat} {S : Nat → Prop} {k : ByteArray} {w : World} (h : CacheAt w S c room l mo) (hk : ∀ n ∈ l, n.k ≠ k) :
    Calls Try.prog 45 #[pt c, .string k] w fun e w' => e = .returned (.tuple #[.int .i64 0, .bool false]) ∧ w = w' := by
  have hf := find_none h hk
  clear h hk
  go_enter Try.func45, Try.ntmps45
  go_wp2_with (go_at_call 41; refine hf.mono ?_; rintro e w' ⟨rfl, rfl⟩)
  go_ret2
  exact ⟨rfl, rfl⟩

theorem NdOf {w : World} {l1 l2 : List Nd} {n : Nd} {c : Nat} {r mp : Value} (h : Ring w c r mp (l1 ++ n :: l2)) : ∃ p q, NdIs w n p q := by
  have := h.2.1
  rw [seg_app] at this
  exact ⟨_, _, this.2.1⟩

theorem peek_some {c : Nat} {room : Int} {l1 l2 : List Nd} {n : Nd} {mo : Option Nat} {S : Nat → Prop} {w : World} (h : CacheAt w S c room (l1 ++ n :: l2) mo) :
    Calls Try.prog 45 #[pt c, .string n.k] w fun e w' => e = .returned (.tuple #[.int .i64 n.v, .bool true]) ∧ w = w' := by
  have hf := find_some h
  obtain ⟨p, q, hn⟩ := NdOf h.1
  have n1 := cell_of hn 1 _ rfl
  clear h hn
  go_enter Try.func45, Try.ntmps45
  go_wp2_with (go_at_call 41; refine hf.mono ?_; rintro e w' ⟨rfl, rfl⟩)
  go_ret2
  exact ⟨rfl, rfl⟩

theorem keys_perm {l l' : List Nd} (hp : l.Perm l') : (l.map (·.k)).Perm (l'.map (·.k)) := hp.map _

theorem mpf_perm {l l' : List Nd} (hp : l.Perm l') (hd0 : (l.map (·.k)).Nodup) (key : Value) : mpf l' key = mpf l key := by
  cases key <;> try rfl
  rename_i k
  rcases split_key l k with h | ⟨a, n, b, rfl, rfl⟩
  · rw [mpf_none h, mpf_none fun n hn => h n (hp.mem_iff.2 hn)]
  · have hm : n ∈ l' := hp.mem_iff.1 (by simp)
    obtain ⟨a', b', rfl⟩ := List.append_of_mem hm
    rw [mpf_some hd0, mpf_some ((keys_perm hp).nodup_iff.1 hd0)]

theorem ringSet_perm {c : Nat} {l l' : List Nd} (hp : l.Perm l') (b : Nat) : RingSet c l' b ↔ RingSet c l b := by
  simp only [RingSet, (hp.map (·.b)).mem_iff]

/-- the same nodes in another order, the ring's blocks alone turned -/
theorem CacheAt.perm {w w' : World} {S : Nat → Prop} {c : Nat} {room : Int} {l l' : List Nd} {mo : Option Nat} (h : CacheAt w S c room l mo) (hp : l.Perm l')
    (hr : Ring w' c (.int .i64 room) (.map mo) l') (ht : Turned (RingSet c l) w w') : CacheAt w' S c room l' mo := by
  obtain ⟨h1, h2, h3, h4, h5⟩ := h
  refine ⟨hr, ?_, (keys_perm hp).nodup_iff.1 h3, fun b hb => h4 b ((ringSet_perm hp b).1 hb), h5⟩
  cases mo with
  | none => simp only [MapOf] at h2 ⊢; subst h2; exact List.nil_perm.1 hp
  | some bm =>
    refine ⟨fun z => h2.1 ((ringSet_perm hp bm).1 z), ?_⟩
    rw [← hp.length_eq]
    exact h2.2.congr (ht.block bm h2.2.lt h2.1) fun key => mpf_perm hp h3 key

theorem perm_mid (l1 l2 : List Nd) (n : Nd) : (l1 ++ n :: l2).Perm (l1 ++ l2 ++ [n]) := by
  rw [List.append_assoc]
  refine List.Perm.append_left _ ?_
  exact (List.perm_append_singleton n l2).symm

theorem ring_new {c : Nat} {w : World} {r mp : Value} {l1 l2 : List Nd} {n : Nd} (h : Ring w c r mp (l1 ++ n :: l2)) : ¬ RingSet c (l1 ++ l2) n.b := by
  have hd0 := h.2.2
  have hp : (c :: (l1 ++ n :: l2).map (·.b)).Perm (n.b :: c :: (l1 ++ l2).map (·.b)) := by
    refine List.Perm.trans ?_ (List.Perm.swap _ _ _)
    refine List.Perm.cons _ ?_
    simp only [List.map_append, List.map_cons]
    exact List.perm_middle
  have := hp.nodup_iff.1 hd0
  rw [List.nodup_cons] at this
  simpa [RingSet] using this.1

theorem turned_ring {S : Nat → Prop} {w w' : World} {c : Nat} {l _l' : List Nd} (h : Turned (RingSet c l) w w') (hl : ∀ b, RingSet c l b → S b) : Turned S w w' :=
  h.mono fun i _ q => hl i q

set_option maxHeartbeats 1000000 in
theorem get_none {c : Nat} {room : Int} {l : List Nd} {mo : Option Nat} {S : Nat → Prop} {k : ByteArray} {w : World} (h : CacheAt w S c room l mo) (hk : ∀ n ∈ l, n.k ≠ k) :
    Calls Try.prog 28 #[pt c, .string k] w fun e w' => e = .returned (.tuple #[.int .i64 0, .bool false]) ∧ w = w' := by
  have hf := find_none h hk
  have hp := peek_none h hk
  clear h hk
  go_enter Try.func28, Try.ntmps28
  go_wp2_with (first | (go_at_call 41; refine hf.mono ?_; rintro e w' ⟨rfl, rfl⟩) | (go_at_call 45; refine hp.mono ?_; rintro e w' ⟨rfl, rfl⟩))
  go_ret2
  exact ⟨rfl, rfl⟩

set_option maxHeartbeats 1000000 in
theorem get_some {c : Nat} {room : Int} {l1 l2 : List Nd} {n : Nd} {mo : Option Nat} {S : Nat → Prop} {w : World} (h : CacheAt w S c room (l1 ++ n :: l2) mo) :
    Calls Try.prog 28 #[pt c, .string n.k] w fun e w' => e = .returned (.tuple #[.int .i64 n.v, .bool true]) ∧ CacheAt w' S c room (l1 ++ l2 ++ [n]) mo ∧ Turned S w w' := by
  have hf := find_some h
  have hu := unhang_ring c _ _ l1 l2 n w h.1
  have hnew := ring_new h.1
  have hH : ∀ w1 w2, Turned (RingSet c (l1 ++ n :: l2)) w w1 → Ring w2 c (.int .i64 room) (.map mo) (l1 ++ l2 ++ [n]) → Turned (RingSet c (l1 ++ l2 ++ [n])) w1 w2 → CacheAt w2 S c room (l1 ++ l2 ++ [n]) mo ∧ Turned S w w2 := by
    intro w1 w2 ht1 hr2 ht2
    have ht := ht1.trans ht2 fun i _ q => (ringSet_perm (perm_mid l1 l2 n) i).1 q
    exact ⟨h.perm (perm_mid l1 l2 n) hr2 ht, ht.mono fun i _ q => h.2.2.2.1 i q⟩
  clear h
  go_enter Try.func28, Try.ntmps28
  go_wp2_with (go_at_call 41; refine hf.mono ?_; rintro e w' ⟨rfl, rfl⟩)
  go_at_call 42
  refine hu.mono ?_
  rintro e w1 ⟨rfl, hr1, hn1, ht1, -⟩
  go_wp2_with fail
  go_at_call 43
  refine (hang_ring c _ _ _ _ n w1 hr1 hn1 hnew).mono ?_
  rintro e w2 ⟨rfl, hr2, ht2, -⟩
  obtain ⟨hc2, htt⟩ := hH w1 w2 ht1 hr2 ht2
  have hp := peek_some hc2
  go_wp2_with (go_at_call 45; refine hp.mono ?_; rintro e w' ⟨rfl, rfl⟩)
  go_ret2
  exact ⟨rfl, hc2, htt⟩



theorem drop_none {c : Nat} {room : Int} {l : List Nd} {mo : Option Nat} {S : Nat → Prop} {k : ByteArray} {w : World} (h : CacheAt w S c room l mo) (hk : ∀ n ∈ l, n.k ≠ k) :
    Calls Try.prog 44 #[pt c, .string k] w fun e w' => e = .returned (.bool false) ∧ w = w' := by
  have hf := find_none h hk
  clear h hk
  go_enter Try.func44, Try.ntmps44
  go_wp2_with (go_at_call 41; refine hf.mono ?_; rintro e w' ⟨rfl, rfl⟩)
  go_ret
  exact ⟨rfl, rfl⟩

theorem mpf_other {l : List Nd} {key : Value} (h : ¬ ∃ k, key = .string k) : mpf l key = none := by
  unfold mpf
  split
  · exact absurd ⟨_, rfl⟩ h
  · rfl

open Classical in
theorem mpf_del {l1 l2 : List Nd} {n : Nd} (h : ((l1 ++ n :: l2).map (·.k)).Nodup) (key : Value) :
    mpf (l1 ++ l2) key = if key = .string n.k then none else mpf (l1 ++ n :: l2) key := by
  have hn : ∀ m ∈ l1 ++ l2, m.k ≠ n.k := by
    have hp : ((l1 ++ n :: l2).map (·.k)).Perm (n.k :: (l1 ++ l2).map (·.k)) := by
      simp only [List.map_append, List.map_cons]; exact List.perm_middle
    have := (List.nodup_cons.1 (hp.nodup_iff.1 h)).1
    intro m hm q
    exact this (List.mem_map.2 ⟨m, hm, q⟩)
  split
  · subst_vars; exact mpf_none hn
  · rename_i hk
    by_cases hi : ∃ k, key = .string k
    · obtain ⟨k, rfl⟩ := hi
      have hk' : n.k ≠ k := fun z => hk (by rw [z])
      simp only [mpf, List.find?_append, List.find?_cons]
      rw [show (decide (n.k = k)) = false by simpa using hk']
    · rw [mpf_other hi, mpf_other hi]

theorem CacheAt.del {w w1 w2 : World} {S : Nat → Prop} {c bm : Nat} {room : Int} {l1 l2 : List Nd} {n : Nd} (h : CacheAt w S c room (l1 ++ n :: l2) (some bm))
    (hr : Ring w1 c (.int .i64 room) (.map (some bm)) (l1 ++ l2)) {m : Value → Option Value} {sz : Nat}
    (hm : MapIs KInt w2 bm m sz) (hme : ∀ key, mpf (l1 ++ l2) key = m key) (hsz : sz = (l1 ++ l2).length) (ht2 : Turned (· = bm) w1 w2) : CacheAt w2 S c room (l1 ++ l2) (some bm) := by
  obtain ⟨h1, h2, h3, h4, h5⟩ := h
  have hsub : ∀ b, RingSet c (l1 ++ l2) b → RingSet c (l1 ++ n :: l2) b := by
    intro b hb
    simp only [RingSet, List.map_append, List.map_cons, List.mem_append, List.mem_cons] at hb ⊢
    rcases hb with hb | hb | hb <;> simp [hb]
  have hbm : ∀ b, RingSet c (l1 ++ l2) b → ¬ b = bm := fun b hb q => h2.1 (q ▸ hsub b hb)
  refine ⟨⟨hr.1.turned ht2 (hbm c (.inl rfl)), Seg.turned ht2 hr.2.1 fun m hm => hbm m.b (.inr (List.mem_map.2 ⟨m, hm, rfl⟩)), hr.2.2⟩, ⟨fun q => h2.1 (hsub _ q), ?_⟩, ?_, fun b hb => h4 b (hsub b hb), h5⟩
  · rw [← hsz]; exact hm.congr rfl hme
  · refine List.Nodup.sublist ?_ h3
    simp

set_option maxHeartbeats 1000000 in
theorem drop_some {c bm : Nat} {room : Int} {l1 l2 : List Nd} {n : Nd} {S : Nat → Prop} {w : World} (h : CacheAt w S c room (l1 ++ n :: l2) (some bm)) :
    Calls Try.prog 44 #[pt c, .string n.k] w fun e w' => e = .returned (.bool true) ∧ CacheAt w' S c room (l1 ++ l2) (some bm) ∧ Turned S w w' ∧ NdIs w' n (.pointer none) (.pointer none) := by
  have hf := find_some h
  have hu := unhang_ring c _ _ l1 l2 n w h.1
  have hmap := h.2.1
  have hmT : ∀ w1, Turned (RingSet c (l1 ++ n :: l2)) w w1 → MapIs KInt w1 bm (mpf (l1 ++ n :: l2)) (l1 ++ n :: l2).length := fun w1 ht => hmap.2.congr (ht.block bm hmap.2.lt hmap.1) fun _ => rfl
  have hH : ∀ w1 w2 (m : Value → Option Value) (sz : Nat), Turned (RingSet c (l1 ++ n :: l2)) w w1 → Ring w1 c (.int .i64 room) (.map (some bm)) (l1 ++ l2) → NdIs w1 n (.pointer none) (.pointer none) → MapIs KInt w2 bm m sz →
      (∀ key, mpf (l1 ++ l2) key = m key) → sz = (l1 ++ l2).length → Turned (· = bm) w1 w2 → CacheAt w2 S c room (l1 ++ l2) (some bm) ∧ Turned S w w2 ∧ NdIs w2 n (.pointer none) (.pointer none) := by
    intro w1 w2 m sz ht1 hr1 hn1 hm hme hsz ht2
    refine ⟨h.del hr1 hm hme hsz ht2, ht1.comp ht2 fun i _ q => ?_, hn1.turned ht2 fun q => hmap.1 (by simp [RingSet, ← q])⟩
    rcases q with q | q
    · exact h.2.2.2.1 i q
    · exact h.2.2.2.2 i (by rw [q])
  have hkn := h.2.2.1
  have hms : (mpf (l1 ++ n :: l2) (.string n.k)).isSome = true := by rw [mpf_some hkn]; rfl
  clear h hmap
  go_enter Try.func44, Try.ntmps44
  go_wp2_with (go_at_call 41; refine hf.mono ?_; rintro e w' ⟨rfl, rfl⟩)
  go_at_call 42
  refine hu.mono ?_
  rintro e w1 ⟨rfl, hr1, hn1, ht1, -⟩
  have hc1 := cell_of hr1.1 1 _ rfl
  have hm1 := hmT w1 ht1
  go_wp2_with (at_delete; refine wpList_delete rfl _ _ 84 9 rfl 85 keyInt Try.underlying84 hm1 rfl (.string n.k) rfl (kk _) ?_; intro w2 hm2 ht2 _)
  have hfin := hH w1 w2 _ _ ht1 hr1 hn1 hm2 (fun key => mpf_del hkn key) (by rw [if_pos hms]; simp) ht2
  go_ret
  exact ⟨rfl, hfin⟩



theorem Ring.turned {S : Nat → Prop} {w w' : World} {c : Nat} {r mp : Value} {l : List Nd} (h : Ring w c r mp l) (ht : Turned S w w') (hS : ∀ b, RingSet c l b → ¬ S b) : Ring w' c r mp l :=
  ⟨h.1.turned ht (hS c (.inl rfl)), Seg.turned ht h.2.1 fun m hm => hS m.b (.inr (List.mem_map.2 ⟨m, hm, rfl⟩)), h.2.2⟩

theorem CacheAt.turned {S T : Nat → Prop} {w w' : World} {c : Nat} {room : Int} {l : List Nd} {mo : Option Nat} (h : CacheAt w S c room l mo) (ht : Turned T w w') (hS : ∀ b, S b → ¬ T b) : CacheAt w' S c room l mo := by
  obtain ⟨h1, h2, h3, h4, h5⟩ := h
  refine ⟨h1.turned ht fun b hb => hS b (h4 b hb), ?_, h3, h4, h5⟩
  cases mo with
  | none => exact h2
  | some bm => exact ⟨h2.1, h2.2.congr (ht.block bm h2.2.lt (hS bm (h5 bm rfl))) fun _ => rfl⟩
theorem CacheAt.drew {S : Nat → Prop} {w : World} {c : Nat} {room : Int} {l : List Nd} {mo : Option Nat} (h : CacheAt w S c room l mo) : CacheAt w.drew S c room l mo :=
  h.turned (Turned.drew (fun _ => False) w) fun _ _ q => q

theorem CacheAt.widen {S T : Nat → Prop} {w : World} {c : Nat} {room : Int} {l : List Nd} {mo : Option Nat} (h : CacheAt w S c room l mo) (hS : ∀ b, S b → T b) : CacheAt w T c room l mo :=
  ⟨h.1, h.2.1, h.2.2.1, fun b hb => hS b (h.2.2.2.1 b hb), fun b hb => hS b (h.2.2.2.2 b hb)⟩

theorem Ring.lt {w : World} {c : Nat} {r mp : Value} {l : List Nd} (h : Ring w c r mp l) {b : Nat} (hb : RingSet c l b) : b < w.heap.size := by
  rcases hb with rfl | hb
  · exact lt_of_block h.1
  · obtain ⟨n, hn, rfl⟩ := List.mem_map.1 hb
    obtain ⟨l1, l2, rfl⟩ := List.append_of_mem hn
    obtain ⟨p, q, h⟩ := NdOf h
    exact lt_of_block h

open Classical in
theorem mpf_put {l : List Nd} {nd : Nd} (hk : ∀ n ∈ l, n.k ≠ nd.k) (key : Value) :
    mpf (l ++ [nd]) key = if key = .string nd.k then some (pt nd.b) else mpf l key := by
  split
  · subst_vars
    simp only [mpf, List.find?_append]
    have : l.find? (fun n => decide (n.k = nd.k)) = none := by
      rw [List.find?_eq_none]; intro n hn; simpa using hk n hn
    simp [this]
  · rename_i h
    by_cases hi : ∃ k, key = .string k
    · obtain ⟨k, rfl⟩ := hi
      have hk' : nd.k ≠ k := fun z => h (by rw [z])
      simp only [mpf, List.find?_append, List.find?_cons]
      rw [show (decide (nd.k = k)) = false by simpa using hk']
      simp
    · rw [mpf_other hi, mpf_other hi]

open Classical in
theorem put_hang {c bm : Nat} {room : Int} {l : List Nd} {S : Nat → Prop} {nd : Nd} {w w1 w2 w3 : World} (h : CacheAt w S c room l (some bm)) (hk : ∀ n ∈ l, n.k ≠ nd.k)
    (hnd : nd.b = w.heap.size) (hw1 : w1 = w.alloc (.cells #[.string nd.k, .int .i64 nd.v, .pointer none, .pointer none] 90)) {sz : Nat} (hm2 : MapIs KInt w2 bm (fun y => if y = .string nd.k then some (pt nd.b) else mpf l y) sz) (hsz : sz = if (mpf l (.string nd.k)).isSome then l.length else l.length + 1) (ht2 : Turned (· = bm) w1 w2) :
    Ring w2 c (.int .i64 room) (.map (some bm)) l ∧ NdIs w2 nd (.pointer none) (.pointer none) ∧ ¬ RingSet c l nd.b ∧
    (Ring w3 c (.int .i64 room) (.map (some bm)) (l ++ [nd]) → Turned (RingSet c (l ++ [nd])) w2 w3 →
      CacheAt w3 (More S w) c room (l ++ [nd]) (some bm) ∧ Turned S w w3 ∧ MapIs KInt w3 bm (mpf (l ++ [nd])) (l ++ [nd]).length) := by
  subst hw1
  have hsub : ∀ b, RingSet c l b → ¬ (b = bm) := fun b hb q => h.2.1.1 (q ▸ hb)
  have hr1 := h.1.turned (Turned.alloc (fun _ => False) w (.cells #[.string nd.k, .int .i64 nd.v, .pointer none, .pointer none] 90)) fun _ _ q => q
  have hn1 : NdIs (w.alloc (.cells #[.string nd.k, .int .i64 nd.v, .pointer none, .pointer none] 90)) nd (.pointer none) (.pointer none) := by
    unfold NdIs Blk; rw [hnd]; exact heap_alloc_new _ _
  have hbm := h.2.1.2.lt
  refine ⟨hr1.turned ht2 hsub, hn1.turned ht2 (by omega), fun q => by have := h.1.lt q; omega, fun hr3 ht3 => ?_⟩
  have hset : ∀ b, RingSet c (l ++ [nd]) b → RingSet c l b ∨ b = nd.b := by
    intro b hb
    simp only [RingSet, List.map_append, List.map_cons, List.map_nil, List.mem_append, List.mem_singleton] at hb ⊢
    rcases hb with hb | hb | hb <;> simp [hb]
  have hmap : MapIs KInt w3 bm (mpf (l ++ [nd])) (l ++ [nd]).length := by
    have hb3 : w3.heap[bm]? = w2.heap[bm]? := by
      refine ht3.block bm hm2.lt fun q => ?_
      rcases hset bm q with q | q
      · exact h.2.1.1 q
      · omega
    have := hm2.congr hb3 (mpf_put hk)
    rw [hsz, mpf_none hk] at this
    simpa using this
  refine ⟨⟨hr3, ⟨fun q => ?_, hmap⟩, ?_, fun b hb => ?_, fun b hb => .inl (h.2.2.2.2 b hb)⟩, ?_, hmap⟩
  · rcases hset bm q with q | q
    · exact h.2.1.1 q
    · omega
  · rw [List.map_append, List.nodup_append]
    refine ⟨h.2.2.1, by simp, ?_⟩
    intro a ha b hb
    obtain ⟨n, hn, rfl⟩ := List.mem_map.1 ha
    simp at hb; subst hb
    exact hk n hn
  · rcases hset b hb with q | q
    · exact .inl (h.2.2.2.1 b q)
    · exact .inr (by omega)
  · refine Turned.comp (S := S) (T := S) (Turned.comp (T := S) (Turned.alloc S w _) ht2 fun i hi q => ?_) ht3 fun i hi q => ?_
    · rcases q with q | q
      · exact q
      · exact h.2.2.2.2 i (by rw [q])
    · rcases q with q | q
      · exact q
      · rcases hset i q with q | q
        · exact h.2.2.2.1 i q
        · omega

set_option maxHeartbeats 1000000 in
theorem put_fits {c bm : Nat} {room : Int} {l : List Nd} {S : Nat → Prop} {k : ByteArray} {v : Int} {w : World} (h : CacheAt w S c room l (some bm)) (hk : ∀ n ∈ l, n.k ≠ k) (hroom : ((l.length + 1 : Nat) : Int) ≤ room) :
    Calls Try.prog 27 #[pt c, .string k, .int .i64 v] w fun e w' => e = .returned (.tuple #[.string ⟨#[]⟩, .int .i64 0, .bool false]) ∧ CacheAt w' (More S w) c room (l ++ [⟨w.heap.size, k, v⟩]) (some bm) ∧ Turned S w w' := by
  have q59 : ∀ (w : World) (r : Option Nat), (binOp .eql 84 (.map r) (.map none)).run Try.prog w = .ok (.bool r.isNone) w := fun w r => run_eql_map_nil w _ _ _ r Try.underlying84
  have hf := find_none h hk
  have hc1 := cell_of h.1.1 1 _ rfl
  have hm1 : MapIs KInt (w.alloc (.cells #[.string k, .int .i64 v, .pointer none, .pointer none] 90)) bm (mpf l) l.length := h.2.1.2.congr (by rw [(MapKept.heap_alloc w _).2 bm h.2.1.2.lt]) fun _ => rfl
  have hlt := lt_of_block h.1.1
  have H := fun sz w2 w3 hm2 hsz ht2 => put_hang (nd := ⟨w.heap.size, k, v⟩) (w2 := w2) (w3 := w3) (sz := sz) h hk rfl rfl hm2 hsz ht2
  obtain ⟨L, hL⟩ : ∃ L, L = (l ++ [(⟨w.heap.size, k, v⟩ : Nd)]).length := ⟨_, rfl⟩
  have hLr : (L : Int) ≤ room := by rw [hL]; simpa using hroom
  clear h hroom
  go_enter Try.func27, Try.ntmps27
  go_wp2_with (first | (go_at_call 41; refine hf.mono ?_; rintro e w' ⟨rfl, rfl⟩) | (at_mapUpdate; go_must (refine wpList_update rfl _ _ _ 84 rfl 9 85 keyInt Try.underlying84 hm1 rfl (.string k) (pt w.heap.size) rfl rfl (kk _) ?_); intro w2 hm2 ht2 _))
  have H3 := fun w3 => H _ w2 w3 hm2 rfl ht2
  refine (hang_ring c _ _ _ l ⟨w.heap.size, k, v⟩ w2 (H3 w2).1 (H3 w2).2.1 (H3 w2).2.2.1).mono ?_
  rintro e w3 ⟨rfl, hr3, ht3, -⟩
  obtain ⟨hc3, htt, hm3⟩ := (H3 w3).2.2.2 hr3 ht3
  rw [← hL] at hm3
  have d0 := cell_of hr3.1 0 _ rfl
  have d1 := cell_of hr3.1 1 _ rfl
  have hlen := fun ty => (show MapIs KInt w3.drew bm (mpf (l ++ [⟨w.heap.size, k, v⟩])) L from hm3).len (P := Try.prog) Try.underlying84 ty
  clear H H3 hm1 hm2 hf hc1 hlt ht2 hL
  go_wp2_with fail
  go_region
  go_wp2
  go_ret3
  exact ⟨rfl, hc3.drew, htt.draw⟩

set_option maxHeartbeats 1000000 in
theorem put_full {c bm : Nat} {room : Int} {l : List Nd} {S : Nat → Prop} {k : ByteArray} {v : Int} {w : World} (h : CacheAt w S c room l (some bm)) (hk : ∀ n ∈ l, n.k ≠ k) (hroom : room < ((l.length + 1 : Nat) : Int)) (e0 : Nd) (t : List Nd) (het : l ++ [⟨w.heap.size, k, v⟩] = e0 :: t) :
    Calls Try.prog 27 #[pt c, .string k, .int .i64 v] w fun e w' => e = .returned (.tuple #[.string e0.k, .int .i64 e0.v, .bool true]) ∧ CacheAt w' (More S w) c room t (some bm) ∧ Turned S w w' := by
  have q59 : ∀ (w : World) (r : Option Nat), (binOp .eql 84 (.map r) (.map none)).run Try.prog w = .ok (.bool r.isNone) w := fun w r => run_eql_map_nil w _ _ _ r Try.underlying84
  have hf := find_none h hk
  have hc1 := cell_of h.1.1 1 _ rfl
  have hm1 : MapIs KInt (w.alloc (.cells #[.string k, .int .i64 v, .pointer none, .pointer none] 90)) bm (mpf l) l.length := h.2.1.2.congr (by rw [(MapKept.heap_alloc w _).2 bm h.2.1.2.lt]) fun _ => rfl
  have hlt := lt_of_block h.1.1
  have H := fun sz w2 w3 hm2 hsz ht2 => put_hang (nd := ⟨w.heap.size, k, v⟩) (w2 := w2) (w3 := w3) (sz := sz) h hk rfl rfl hm2 hsz ht2
  obtain ⟨L, hL⟩ : ∃ L, L = (l ++ [(⟨w.heap.size, k, v⟩ : Nd)]).length := ⟨_, rfl⟩
  have hLr : room < (L : Int) := by rw [hL]; simpa using hroom
  clear h hroom
  go_enter Try.func27, Try.ntmps27
  go_wp2_with (first | (go_at_call 41; refine hf.mono ?_; rintro e w' ⟨rfl, rfl⟩) | (at_mapUpdate; go_must (refine wpList_update rfl _ _ _ 84 rfl 9 85 keyInt Try.underlying84 hm1 rfl (.string k) (pt w.heap.size) rfl rfl (kk _) ?_); intro w2 hm2 ht2 _))
  have H3 := fun w3 => H _ w2 w3 hm2 rfl ht2
  refine (hang_ring c _ _ _ l ⟨w.heap.size, k, v⟩ w2 (H3 w2).1 (H3 w2).2.1 (H3 w2).2.2.1).mono ?_
  rintro e w3 ⟨rfl, hr3, ht3, -⟩
  obtain ⟨hc3, htt, hm3⟩ := (H3 w3).2.2.2 hr3 ht3
  rw [← hL] at hm3
  rw [het] at hr3 hc3 hm3
  have d0 := cell_of hr3.1 0 _ rfl
  have d1 := cell_of hr3.1 1 _ rfl
  have d2 : w3.cell? ⟨c, 2, none⟩ = some (pt e0.b) := cell_of hr3.1 2 _ rfl
  have n0 := cell_of hr3.2.1.1 0 _ rfl
  have hdr := drop_some (l1 := []) hc3.drew
  have hlen := fun ty => (show MapIs KInt w3.drew bm (mpf (e0 :: t)) L from hm3).len (P := Try.prog) Try.underlying84 ty
  clear het H H3 hm1 hm2 hf hc1 hlt ht2 hL
  go_wp2_with fail
  go_region
  go_wp2_with (go_at_call 44; refine hdr.mono ?_; rintro e w4 ⟨rfl, hc4, ht4, hn4⟩; have m0 := cell_of hn4 0 _ rfl; have m1 := cell_of hn4 1 _ rfl)
  go_region
  go_wp2
  go_ret3
  exact ⟨rfl, hc4.drew, (htt.draw.comp ht4 fun i hi q => by rcases q with q | q | q; exact q; exact q; exact absurd q (by omega)).draw⟩

theorem makes {c : Nat} {room : Int} {S : Nat → Prop} {w : World} (h : CacheAt w S c room [] none) : CacheAt ((w.setCell ⟨c, 1, none⟩ (.map (some w.heap.size))).alloc (.map #[] 0)) (More S w) c room [] (some w.heap.size) := by
  have hc := lt_of_block h.1.1
  have hb : Blk (w.setCell ⟨c, 1, none⟩ (.map (some w.heap.size))) c #[.int .i64 room, .map (some w.heap.size), .pointer none, .pointer none] 87 := Go.Mine.heap_setCell_same h.1.1 _
  refine ⟨⟨Go.Mine.heap_alloc_old hb, trivial, by simp⟩, ⟨?_, ?_⟩, by simp, fun b hb => .inl (h.2.2.2.1 b hb), fun b hb => .inr (by simp at hb; omega)⟩
  · simp only [RingSet, List.map_nil, List.not_mem_nil, or_false]; omega
  · have := MapIs.made KInt (w.setCell ⟨c, 1, none⟩ (.map (some w.heap.size)))
    rw [setCell_size] at this
    refine this.congr rfl fun key => ?_
    unfold mpf; split <;> simp

set_option maxHeartbeats 1000000 in
theorem put_fits0 {c : Nat} {room : Int} {S : Nat → Prop} {k : ByteArray} {v : Int} {w : World} (h : CacheAt w S c room [] none) (hroom : (1 : Int) ≤ room) :
    Calls Try.prog 27 #[pt c, .string k, .int .i64 v] w fun e w' => e = .returned (.tuple #[.string ⟨#[]⟩, .int .i64 0, .bool false]) ∧ CacheAt w' (More S w) c room ([⟨w.heap.size + 1, k, v⟩]) (some w.heap.size) ∧ Turned S w w' := by
  have q59 : ∀ (w : World) (r : Option Nat), (binOp .eql 84 (.map r) (.map none)).run Try.prog w = .ok (.bool r.isNone) w := fun w r => run_eql_map_nil w _ _ _ r Try.underlying84
  have hf := find_none (k := k) h (by simp)
  have hw0 := makes h
  have hT0 : Turned S w ((w.setCell ⟨c, 1, none⟩ (.map (some w.heap.size))).alloc (.map #[] 0)) := ((Turned.refl _ _).set (h.2.2.2.1 c (.inl rfl)) _).new _
  have hMM : ∀ b, More (More S w) ((w.setCell ⟨c, 1, none⟩ (.map (some w.heap.size))).alloc (.map #[] 0)) b → More S w b := by
    intro b hb
    rcases hb with hb | hb
    · exact hb
    · refine .inr ?_; simp at hb; omega
  have hc1 := cell_of h.1.1 1 _ rfl
  have hfr := free_of h.1.1 1
  have hmm := @run_makeMap Try.prog
  have hm1 : MapIs KInt (((w.setCell ⟨c, 1, none⟩ (.map (some w.heap.size))).alloc (.map #[] 0)).alloc (.cells #[.string k, .int .i64 v, .pointer none, .pointer none] 90)) w.heap.size (mpf []) 0 := hw0.2.1.2.congr (by rw [(MapKept.heap_alloc _ _).2 _ hw0.2.1.2.lt]) fun _ => rfl
  have hlt := lt_of_block h.1.1
  have H := fun sz w2 w3 hm2 hsz ht2 => put_hang (nd := ⟨w.heap.size + 1, k, v⟩) (w2 := w2) (w3 := w3) (sz := sz) hw0 (by simp) (by simp) rfl hm2 hsz ht2
  obtain ⟨L, hL⟩ : ∃ L, L = ([(⟨w.heap.size + 1, k, v⟩ : Nd)]).length := ⟨_, rfl⟩
  have hLr : (L : Int) ≤ room := by rw [hL]; simpa using hroom
  clear h hroom hw0
  go_enter Try.func27, Try.ntmps27
  go_wp2_with (first | (go_at_call 41; refine hf.mono ?_; rintro e w' ⟨rfl, rfl⟩) | (at_mapUpdate; go_must (refine wpList_update rfl _ _ _ 84 rfl 9 85 keyInt Try.underlying84 hm1 rfl (.string k) (pt (w.heap.size + 1)) rfl rfl (kk _) ?_); intro w2 hm2 ht2 _))
  have H3 := fun w3 => H _ w2 w3 hm2 rfl ht2
  refine (hang_ring c _ _ _ [] ⟨w.heap.size + 1, k, v⟩ w2 (H3 w2).1 (H3 w2).2.1 (H3 w2).2.2.1).mono ?_
  rintro e w3 ⟨rfl, hr3, ht3, -⟩
  obtain ⟨hc3, htt, hm3⟩ := (H3 w3).2.2.2 hr3 ht3
  rw [List.nil_append] at hr3 hc3 hm3
  rw [← hL] at hm3
  have d0 := cell_of hr3.1 0 _ rfl
  have d1 := cell_of hr3.1 1 _ rfl
  have hlen := fun ty => (show MapIs KInt w3.drew w.heap.size (mpf [⟨w.heap.size + 1, k, v⟩]) L from hm3).len (P := Try.prog) Try.underlying84 ty
  clear H H3 hm1 hm2 hf hc1 hlt ht2 hL
  go_wp2_with fail
  go_region
  go_wp2
  go_ret3
  exact ⟨rfl, (hc3.widen hMM).drew, (hT0.comp htt fun i hi q => by rcases q with q | q | q; exact q; exact q; exact absurd q (by omega)).draw⟩

set_option maxHeartbeats 1000000 in
theorem put_full0 {c : Nat} {room : Int} {S : Nat → Prop} {k : ByteArray} {v : Int} {w : World} (h : CacheAt w S c room [] none) (hroom : room < (1 : Int)) (e0 : Nd) (t : List Nd) (het : [⟨w.heap.size + 1, k, v⟩] = e0 :: t) :
    Calls Try.prog 27 #[pt c, .string k, .int .i64 v] w fun e w' => e = .returned (.tuple #[.string e0.k, .int .i64 e0.v, .bool true]) ∧ CacheAt w' (More S w) c room t (some w.heap.size) ∧ Turned S w w' := by
  have q59 : ∀ (w : World) (r : Option Nat), (binOp .eql 84 (.map r) (.map none)).run Try.prog w = .ok (.bool r.isNone) w := fun w r => run_eql_map_nil w _ _ _ r Try.underlying84
  have hf := find_none (k := k) h (by simp)
  have hw0 := makes h
  have hT0 : Turned S w ((w.setCell ⟨c, 1, none⟩ (.map (some w.heap.size))).alloc (.map #[] 0)) := ((Turned.refl _ _).set (h.2.2.2.1 c (.inl rfl)) _).new _
  have hMM : ∀ b, More (More S w) ((w.setCell ⟨c, 1, none⟩ (.map (some w.heap.size))).alloc (.map #[] 0)) b → More S w b := by
    intro b hb
    rcases hb with hb | hb
    · exact hb
    · refine .inr ?_; simp at hb; omega
  have hc1 := cell_of h.1.1 1 _ rfl
  have hfr := free_of h.1.1 1
  have hmm := @run_makeMap Try.prog
  have hm1 : MapIs KInt (((w.setCell ⟨c, 1, none⟩ (.map (some w.heap.size))).alloc (.map #[] 0)).alloc (.cells #[.string k, .int .i64 v, .pointer none, .pointer none] 90)) w.heap.size (mpf []) 0 := hw0.2.1.2.congr (by rw [(MapKept.heap_alloc _ _).2 _ hw0.2.1.2.lt]) fun _ => rfl
  have hlt := lt_of_block h.1.1
  have H := fun sz w2 w3 hm2 hsz ht2 => put_hang (nd := ⟨w.heap.size + 1, k, v⟩) (w2 := w2) (w3 := w3) (sz := sz) hw0 (by simp) (by simp) rfl hm2 hsz ht2
  obtain ⟨L, hL⟩ : ∃ L, L = ([(⟨w.heap.size + 1, k, v⟩ : Nd)]).length := ⟨_, rfl⟩
  have hLr : room < (L : Int) := by rw [hL]; simpa using hroom
  clear h hroom hw0
  go_enter Try.func27, Try.ntmps27
  go_wp2_with (first | (go_at_call 41; refine hf.mono ?_; rintro e w' ⟨rfl, rfl⟩) | (at_mapUpdate; go_must (refine wpList_update rfl _ _ _ 84 rfl 9 85 keyInt Try.underlying84 hm1 rfl (.string k) (pt (w.heap.size + 1)) rfl rfl (kk _) ?_); intro w2 hm2 ht2 _))
  have H3 := fun w3 => H _ w2 w3 hm2 rfl ht2
  refine (hang_ring c _ _ _ [] ⟨w.heap.size + 1, k, v⟩ w2 (H3 w2).1 (H3 w2).2.1 (H3 w2).2.2.1).mono ?_
  rintro e w3 ⟨rfl, hr3, ht3, -⟩
  obtain ⟨hc3, htt, hm3⟩ := (H3 w3).2.2.2 hr3 ht3
  rw [List.nil_append] at hr3 hc3 hm3
  rw [← hL] at hm3
  rw [het] at hr3 hc3 hm3
  have d0 := cell_of hr3.1 0 _ rfl
  have d1 := cell_of hr3.1 1 _ rfl
  have d2 : w3.cell? ⟨c, 2, none⟩ = some (pt e0.b) := cell_of hr3.1 2 _ rfl
  have n0 := cell_of hr3.2.1.1 0 _ rfl
  have hdr := drop_some (l1 := []) hc3.drew
  have hlen := fun ty => (show MapIs KInt w3.drew w.heap.size (mpf (e0 :: t)) L from hm3).len (P := Try.prog) Try.underlying84 ty
  clear het H H3 hm1 hm2 hf hc1 hlt ht2 hL
  go_wp2_with fail
  go_region
  go_wp2_with (go_at_call 44; refine hdr.mono ?_; rintro e w4 ⟨rfl, hc4, ht4, hn4⟩; have m0 := cell_of hn4 0 _ rfl; have m1 := cell_of hn4 1 _ rfl)
  go_region
  go_wp2
  go_ret3
  exact ⟨rfl, (hc4.widen hMM).drew, ((hT0.comp (T := S) htt fun i hi q => by rcases q with q | q | q; exact q; exact q; exact absurd q (by omega)).draw.comp ht4 fun i hi q => by rcases q with q | q; exact q; rcases hMM i q with q | q; exact q; exact absurd q (by omega)).draw⟩



theorem CacheAt.setv {w : World} {S : Nat → Prop} {c : Nat} {room : Int} {l1 l2 : List Nd} {n : Nd} {mo : Option Nat} (v : Int) (h : CacheAt w S c room (l1 ++ n :: l2) mo) :
    CacheAt (w.setCell ⟨n.b, 1, none⟩ (.int .i64 v)) S c room (l1 ++ ⟨n.b, n.k, v⟩ :: l2) mo := by
  obtain ⟨⟨h1, h2, h3⟩, h4, h5, h6, h7⟩ := h
  have hbs : (l1 ++ (⟨n.b, n.k, v⟩ : Nd) :: l2).map (·.b) = (l1 ++ n :: l2).map (·.b) := by simp
  have hks : (l1 ++ (⟨n.b, n.k, v⟩ : Nd) :: l2).map (·.k) = (l1 ++ n :: l2).map (·.k) := by simp
  have hset : ∀ b, RingSet c (l1 ++ (⟨n.b, n.k, v⟩ : Nd) :: l2) b ↔ RingSet c (l1 ++ n :: l2) b := by intro b; simp only [RingSet, hbs]
  have ht : Turned (· = n.b) w (w.setCell ⟨n.b, 1, none⟩ (.int .i64 v)) := Turned.setCell (S := (· = n.b)) (p := ⟨n.b, 1, none⟩) rfl _
  have hd0 := h3
  have hperm : (c :: (l1 ++ n :: l2).map (·.b)).Perm (n.b :: c :: (l1 ++ l2).map (·.b)) := by
    refine List.Perm.trans ?_ (List.Perm.swap _ _ _)
    refine List.Perm.cons _ ?_
    simp only [List.map_append, List.map_cons]
    exact List.perm_middle
  have hnn := (List.nodup_cons.1 (hperm.nodup_iff.1 h3)).1
  simp only [List.mem_cons, List.map_append, List.mem_append, not_or] at hnn
  rw [seg_app] at h2
  obtain ⟨g1, g2, g3⟩ := h2
  refine ⟨⟨?_, ?_, by rw [hbs]; exact h3⟩, ?_, by rw [hks]; exact h5, fun b hb => h6 b ((hset b).1 hb), h7⟩
  · have := h1.turned ht (fun q => hnn.1 q.symm)
    simpa only [List.append_assoc, List.cons_append, List.nil_append, List.append_nil, hd_app, hd_cons, hd_nil, lst_app, lst_cons, lst_nil, pto_some] using this
  · rw [seg_app]
    refine ⟨Seg.turned ht (by simpa only [hd_cons] using g1) fun m hm q => hnn.2.1 (List.mem_map.2 ⟨m, hm, q⟩), ?_, Seg.turned ht g3 fun m hm q => hnn.2.2 (List.mem_map.2 ⟨m, hm, q⟩)⟩
    have := Go.Mine.heap_setCell_same (o := 1) g2 (.int .i64 v)
    simpa [NdIs, Blk] using this
  · cases mo with
    | none => simp [MapOf] at h4
    | some bm =>
      refine ⟨fun q => h4.1 ((hset bm).1 q), ?_⟩
      have hne : ¬ bm = n.b := fun q => h4.1 (by simp [RingSet, q])
      have : (l1 ++ (⟨n.b, n.k, v⟩ : Nd) :: l2).length = (l1 ++ n :: l2).length := by simp
      rw [this]
      refine h4.2.congr (ht.block bm h4.2.lt hne) fun key => ?_
      by_cases hi : ∃ k, key = .string k
      · obtain ⟨k, rfl⟩ := hi
        rcases split_key l1 k with hk | ⟨a, m, b, rfl, rfl⟩
        · have e1 : l1.find? (fun n => decide (n.k = k)) = none := by rw [List.find?_eq_none]; intro n hn; simpa using hk n hn
          simp only [mpf, List.find?_append, e1, List.find?_cons, Option.none_or]
          cases (decide (n.k = k)) <;> rfl
        · have e1 : (a ++ m :: b).find? (fun n => decide (n.k = m.k)) ≠ none := by simp
          simp only [mpf, List.find?_append]
          cases h : (a.find? fun n => decide (n.k = m.k)).or ((m :: b).find? fun n => decide (n.k = m.k)) with
          | some x => rfl
          | none => simp at h
      · rw [mpf_other hi, mpf_other hi]

set_option maxHeartbeats 1000000 in
theorem put_hit {c : Nat} {room : Int} {l1 l2 : List Nd} {n : Nd} {mo : Option Nat} {S : Nat → Prop} {v : Int} {w : World} (h : CacheAt w S c room (l1 ++ n :: l2) mo) :
    Calls Try.prog 27 #[pt c, .string n.k, .int .i64 v] w fun e w' => e = .returned (.tuple #[.string ⟨#[]⟩, .int .i64 0, .bool false]) ∧ CacheAt w' S c room (l1 ++ l2 ++ [⟨n.b, n.k, v⟩]) mo ∧ Turned S w w' := by
  have hf := find_some h
  have h1 := h.setv v
  obtain ⟨p, q, hn⟩ := NdOf h.1
  have n1 := cell_of hn 1 _ rfl
  have f1 := free_of hn 1
  have hS : S n.b := h.2.2.2.1 n.b (by simp [RingSet])
  clear h hn
  have hu := unhang_ring c _ _ l1 l2 ⟨n.b, n.k, v⟩ _ h1.1
  have hnew := ring_new h1.1
  have hH : ∀ w1 w2, Turned (RingSet c (l1 ++ ⟨n.b, n.k, v⟩ :: l2)) (w.setCell ⟨n.b, 1, none⟩ (.int .i64 v)) w1 → Ring w2 c (.int .i64 room) (.map mo) (l1 ++ l2 ++ [⟨n.b, n.k, v⟩]) → Turned (RingSet c (l1 ++ l2 ++ [⟨n.b, n.k, v⟩])) w1 w2 →
      CacheAt w2 S c room (l1 ++ l2 ++ [⟨n.b, n.k, v⟩]) mo ∧ Turned S w w2 := by
    intro w1 w2 ht1 hr2 ht2
    have ht := ht1.trans ht2 fun i _ q => (ringSet_perm (perm_mid l1 l2 ⟨n.b, n.k, v⟩) i).1 q
    exact ⟨h1.perm (perm_mid l1 l2 _) hr2 ht, (Turned.setCell (S := S) hS _).trans ht fun i _ q => h1.2.2.2.1 i q⟩
  clear h1
  go_enter Try.func27, Try.ntmps27
  go_wp2_with (go_at_call 41; refine hf.mono ?_; rintro e w' ⟨rfl, rfl⟩)
  go_at_call 42
  refine hu.mono ?_
  rintro e w1 ⟨rfl, hr1, hn1, ht1, -⟩
  go_wp2_with fail
  go_at_call 43
  refine (hang_ring c _ _ _ _ ⟨n.b, n.k, v⟩ w1 hr1 hn1 hnew).mono ?_
  rintro e w2 ⟨rfl, hr2, ht2, -⟩
  obtain ⟨hc2, htt⟩ := hH w1 w2 ht1 hr2 ht2
  go_wp2_with fail
  go_ret3
  exact ⟨rfl, hc2, htt⟩

theorem new_any (room : Int) (w : World) :
    Calls Try.prog 25 #[.int .i64 room] w fun e w' => e = .returned (pt w.heap.size) ∧ CacheAt w' (fun b => b = w.heap.size) w.heap.size (min (max room 0) 4096) [] none ∧ Turned (fun _ => False) w w' := by
  have hx : ∀ r, r = min (max room 0) 4096 → CacheAt (w.alloc (.cells #[.int .i64 r, .map none, .pointer none, .pointer none] 87)) (fun b => b = w.heap.size) w.heap.size (min (max room 0) 4096) [] none ∧ Turned (fun _ => False) w (w.alloc (.cells #[.int .i64 r, .map none, .pointer none, .pointer none] 87)) := by
    rintro r rfl
    exact ⟨⟨⟨heap_alloc_new _ _, trivial, by simp⟩, rfl, by simp, fun b hb => by simpa [RingSet] using hb, fun b hb => by cases hb⟩, Turned.alloc _ _ _⟩
  go_enter Try.func25, Try.ntmps25
  go_wp2
  all_goals (go_ret; refine ⟨rfl, hx _ ?_⟩; omega)



theorem room_is {c : Nat} {room : Int} {l : List Nd} {mo : Option Nat} {S : Nat → Prop} {w : World} (h : CacheAt w S c room l mo) :
    Calls Try.prog 26 #[pt c] w fun e w' => e = .returned (.int .i64 room) ∧ w = w' := by
  have c0 := cell_of h.1.1 0 _ rfl
  clear h
  go_enter Try.func26, Try.ntmps26
  go_wp2
  go_ret
  exact ⟨rfl, rfl⟩

theorem len_is {c : Nat} {room : Int} {l : List Nd} {mo : Option Nat} {S : Nat → Prop} {w : World} (h : CacheAt w S c room l mo) :
    Calls Try.prog 29 #[pt c] w fun e w' => e = .returned (.int .i64 l.length) ∧ w = w' := by
  have c1 := cell_of h.1.1 1 _ rfl
  cases mo with
  | none =>
    obtain rfl : l = [] := h.2.1
    have hl : ∀ ty, (Builtin.len_ #[84] ty #[.map none]).run Try.prog w = .ok (.int .i64 0) w := fun ty => Maps.len_nil Try.underlying84 ty
    clear h
    go_enter Try.func29, Try.ntmps29
    go_wp2
    go_ret
    exact ⟨rfl, rfl⟩
  | some bm =>
    have hl := fun ty => h.2.1.2.len (P := Try.prog) Try.underlying84 ty
    clear h
    obtain ⟨L, hL⟩ : ∃ L, L = l.length := ⟨_, rfl⟩
    rw [← hL] at hl ⊢
    clear hL
    go_enter Try.func29, Try.ntmps29
    go_wp2
    go_ret
    exact ⟨rfl, rfl⟩


end Go.Proofs.Ytbhafcmdmpebiaa.Str
