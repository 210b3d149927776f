/- The ring of keys (ints to ints) as a list of nodes; what unhang and hang make of it. -/
import Derived.Test.YtbhafcmdmpebiaaHang
namespace Go.Proofs.Ytbhafcmdmpebiaa
open Go.RowKit Go.Mine

structure Nd where
  b : Nat
  k : Int
  v : Int

def hd : List Nd → Option Nat → Option Nat
  | [], nx => nx
  | m :: _, _ => some m.b
def lst : List Nd → Option Nat → Option Nat
  | [], pv => pv
  | m :: r, _ => lst r (some m.b)
def pto : Option Nat → Value
  | none => .pointer none
  | some b => pt b
def NdIs (w : World) (n : Nd) (pv nx : Value) : Prop := Blk w n.b #[.int .i64 n.k, .int .i64 n.v, pv, nx] 71
def Seg (w : World) : List Nd → Option Nat → Option Nat → Prop
  | [], _, _ => True
  | n :: r, pv, nx => NdIs w n (pto pv) (pto (hd r nx)) ∧ Seg w r (some n.b) nx

theorem hd_cons (m : Nd) (r : List Nd) (nx : Option Nat) : hd (m :: r) nx = some m.b := rfl
theorem hd_nil (nx : Option Nat) : hd [] nx = nx := rfl
theorem lst_cons (m : Nd) (r : List Nd) (pv : Option Nat) : lst (m :: r) pv = lst r (some m.b) := rfl
theorem lst_nil (pv : Option Nat) : lst [] pv = pv := rfl
theorem pto_some (b : Nat) : pto (some b) = pt b := rfl
theorem hd_app (l1 l2 : List Nd) (nx : Option Nat) : hd (l1 ++ l2) nx = hd l1 (hd l2 nx) := by cases l1 <;> rfl
theorem lst_app : ∀ (l1 l2 : List Nd) (pv : Option Nat), lst (l1 ++ l2) pv = lst l2 (lst l1 pv)
  | [], _, _ => rfl
  | m :: r, l2, _pv => lst_app r l2 (some m.b)
theorem seg_app (w : World) : ∀ (l1 l2 : List Nd) (pv nx : Option Nat), Seg w (l1 ++ l2) pv nx ↔ Seg w l1 pv (hd l2 nx) ∧ Seg w l2 (lst l1 pv) nx
  | [], _, _, _ => by simp [Seg, lst]
  | m :: r, l2, pv, nx => by simp only [List.cons_append, Seg, seg_app w r l2, hd_app, lst, and_assoc]
theorem lst_snoc (l : List Nd) (n : Nd) (pv : Option Nat) : lst (l ++ [n]) pv = some n.b := by rw [lst_app]; rfl

theorem Blk.turned {S : Nat → Prop} {w w' : World} {b : Nat} {c : Array Value} {T : TypeId} (h : Blk w b c T) (ht : Turned S w w') (hS : ¬ S b) : Blk w' b c T :=
  (ht.block b (lt_of_block h) hS).trans h
theorem Seg.turned {S : Nat → Prop} {w w' : World} (ht : Turned S w w') : ∀ {l : List Nd} {pv nx : Option Nat}, Seg w l pv nx → (∀ n ∈ l, ¬ S n.b) → Seg w' l pv nx
  | [], _, _, _, _ => trivial
  | n :: _, _, _, h, hS => ⟨h.1.turned ht (hS n (.head _)), Seg.turned ht h.2 fun m hm => hS m (.tail _ hm)⟩

def Ring (w : World) (c : Nat) (r mp : Value) (l : List Nd) : Prop :=
  Blk w c #[r, mp, pto (hd l none), pto (lst l none)] 62 ∧ Seg w l none none ∧ (c :: l.map (·.b)).Nodup

def RingSet (c : Nat) (l : List Nd) (b : Nat) : Prop := b = c ∨ b ∈ l.map (·.b)

theorem split_last {α : Type} (l : List α) : l = [] ∨ ∃ r x, l = r ++ [x] := by
  rcases List.eq_nil_or_concat l with h | ⟨r, x, h⟩
  · exact .inl h
  · exact .inr ⟨r, x, by simpa using h⟩

theorem unhang_ring (c : Nat) (r mp : Value) (l1 l2 : List Nd) (n : Nd) (w : World) (h : Ring w c r mp (l1 ++ n :: l2)) :
    Calls Try.prog 31 #[pt c, pt n.b] w fun e w' => e = .returned (.tuple #[]) ∧ Ring w' c r mp (l1 ++ l2) ∧ NdIs w' n (.pointer none) (.pointer none) ∧
      Turned (RingSet c (l1 ++ n :: l2)) w w' ∧ w'.heap.size = w.heap.size := by
  obtain ⟨hb, hs, hd0⟩ := h
  have hdist := hd0
  rw [seg_app] at hs
  obtain ⟨h1, h2, h3⟩ := hs
  simp only [List.map_append, List.map_cons, List.nodup_cons, List.mem_append, List.mem_cons, List.nodup_append, not_or, List.mem_map] at hd0
  rcases split_last l1 with rfl | ⟨a, p, rfl⟩
  · cases l2 with
    | nil =>
      refine (unhang_only c n.b _ _ _ _ _ _ w (by intro q; simp [q] at hdist) hb h2).mono ?_
      rintro e w' ⟨he, g1, g2, g3, g4⟩
      exact ⟨he, ⟨g1, trivial, by simp⟩, g2, g3.mono fun i _ q => by rcases q with rfl | rfl <;> simp [RingSet], g4⟩
    | cons q t =>
      have e1 : c ≠ n.b := by intro q; simp [q] at hdist
      have e2 : c ≠ q.b := by intro z; simp [z] at hdist
      have e3 : n.b ≠ q.b := by intro z; simp [z] at hdist
      refine (unhang_first c n.b q.b _ _ _ _ _ _ _ _ _ w e1 e2 e3 hb h2 h3.1).mono ?_
      rintro e w' ⟨he, g1, g2, g3, g4, g5⟩
      refine ⟨he, ⟨g1, ⟨g3, Seg.turned g4 h3.2 ?_⟩, ?_⟩, g2, g4.mono fun i _ z => by rcases z with rfl | rfl | rfl <;> simp [RingSet], g5⟩
      · intro m hm z
        have hm' : m.b ∈ t.map (·.b) := List.mem_map.2 ⟨m, hm, rfl⟩
        simp only [List.nil_append, List.map_cons, List.nodup_cons, List.mem_cons, not_or] at hdist
        rcases z with z | z | z <;> rw [z] at hm'
        · exact hdist.1.2.2 hm'
        · exact hdist.2.1.2 hm'
        · exact hdist.2.2.1 hm'
      · simp only [List.nil_append, List.map_cons, List.nodup_cons, List.mem_cons, not_or] at hdist ⊢
        exact ⟨⟨hdist.1.2.1, hdist.1.2.2⟩, hdist.2.2⟩
  · rw [seg_app] at h1
    obtain ⟨ha, hp, -⟩ := h1
    have e1 : c ≠ n.b := by intro q; simp [q] at hdist
    have e4 : c ≠ p.b := by intro q; simp [q] at hdist
    have e5 : n.b ≠ p.b := by
      intro z
      simp only [List.append_assoc, List.map_append, List.map_cons, List.map_nil, List.nodup_cons, List.nodup_append] at hdist
      simp [z] at hdist
    rw [lst_snoc] at h2
    cases l2 with
    | nil =>
      refine (unhang_last c n.b p.b _ _ _ _ _ _ _ _ _ w e1 e4 e5 (by simpa only [List.append_assoc, List.cons_append, List.nil_append, List.append_nil, hd_app, hd_cons, hd_nil, lst_app, lst_cons, lst_nil, pto_some] using hb) h2 hp).mono ?_
      rintro e w' ⟨he, g1, g2, g3, g4, g5⟩
      have hna : ∀ m ∈ a, ¬ (m.b = c ∨ m.b = n.b ∨ m.b = p.b) := by
        intro m hm z
        have hm' : m.b ∈ a.map (·.b) := List.mem_map.2 ⟨m, hm, rfl⟩
        simp only [List.append_assoc, List.map_append, List.map_cons, List.map_nil, List.nodup_cons, List.nodup_append, List.mem_append, List.mem_cons, not_or] at hdist
        rcases z with z | z | z <;> rw [z] at hm'
        · exact hdist.1.1 hm'
        · exact hdist.2.2.2 _ hm' n.b (by simp) rfl
        · exact hdist.2.2.2 _ hm' p.b (by simp) rfl
      refine ⟨he, ⟨?_, ?_, ?_⟩, g2, g4.mono fun i _ z => by rcases z with rfl | rfl | rfl <;> simp [RingSet], g5⟩
      · simpa only [List.append_assoc, List.cons_append, List.nil_append, List.append_nil, hd_app, hd_cons, hd_nil, lst_app, lst_cons, lst_nil, pto_some] using g1
      · rw [List.append_nil, seg_app]
        exact ⟨Seg.turned g4 (by simpa [hd] using ha) hna, g3, trivial⟩
      · simp only [List.append_nil]
        refine List.Nodup.sublist ?_ hdist
        simp
    | cons q t =>
      have e2 : c ≠ q.b := by intro z; simp [z] at hdist
      have e3 : n.b ≠ q.b := by
        intro z
        simp only [List.append_assoc, List.map_append, List.map_cons, List.map_nil, List.nodup_cons, List.nodup_append] at hdist
        simp [z] at hdist
      have e6 : p.b ≠ q.b := by
        intro z
        simp only [List.append_assoc, List.map_append, List.map_cons, List.map_nil, List.nodup_cons, List.nodup_append] at hdist
        simp [z] at hdist
      refine (unhang_mid c n.b p.b q.b _ _ _ _ _ _ _ _ w e5 e3 e6 h2 hp h3.1).mono ?_
      rintro e w' ⟨he, g2, g3, g1, g4, g5⟩
      simp only [List.append_assoc, List.map_append, List.map_cons, List.nodup_cons, List.nodup_append, List.mem_append, List.mem_cons, not_or, List.singleton_append] at hdist
      have hna : ∀ m ∈ a, ¬ (m.b = n.b ∨ m.b = p.b ∨ m.b = q.b) := by
        intro m hm z
        have hm' : m.b ∈ a.map (·.b) := List.mem_map.2 ⟨m, hm, rfl⟩
        rcases z with z | z | z <;> rw [z] at hm'
        · exact hdist.2.2.2 _ hm' n.b (by simp) rfl
        · exact hdist.2.2.2 _ hm' p.b (by simp) rfl
        · exact hdist.2.2.2 _ hm' q.b (by simp) rfl
      have hnt : ∀ m ∈ t, ¬ (m.b = n.b ∨ m.b = p.b ∨ m.b = q.b) := by
        intro m hm z
        have hm' : m.b ∈ t.map (·.b) := List.mem_map.2 ⟨m, hm, rfl⟩
        have hd2 := hdist.2.2.1
        rcases z with z | z | z <;> rw [z] at hm'
        · exact hd2.2.1.2 hm'
        · exact hd2.1.2.2 hm'
        · exact hd2.2.2.1 hm'
      refine ⟨he, ⟨?_, ?_, ?_⟩, g2, g4.mono fun i _ z => by rcases z with rfl | rfl | rfl <;> simp [RingSet], g5⟩
      · have hb' : Blk w' c #[r, mp, pto (hd (a ++ [p] ++ n :: q :: t) none), pto (lst (a ++ [p] ++ n :: q :: t) none)] 62 := hb.turned g4 (by rintro (z | z | z); exact e1 z; exact e4 z; exact e2 z)
        simpa only [List.append_assoc, List.cons_append, List.nil_append, List.append_nil, hd_app, hd_cons, hd_nil, lst_app, lst_cons, lst_nil, pto_some] using hb'
      · rw [List.append_assoc, seg_app, List.singleton_append]
        exact ⟨Seg.turned g4 (by simpa [hd] using ha) hna, g3, g1, Seg.turned g4 h3.2 hnt⟩
      · simp only [List.append_assoc, List.map_append, List.map_cons, List.nodup_cons, List.nodup_append, List.mem_append, List.mem_cons, not_or, List.singleton_append]
        refine ⟨⟨hdist.1.1, hdist.1.2.1, hdist.1.2.2.2.1, hdist.1.2.2.2.2⟩, hdist.2.1, ⟨⟨hdist.2.2.1.1.2.1, hdist.2.2.1.1.2.2⟩, hdist.2.2.1.2.2⟩, ?_⟩
        intro x hx y hy
        exact hdist.2.2.2 x hx y (by rcases hy with hy | hy | hy <;> simp [hy])

theorem hang_ring (c : Nat) (r mp o : Value) (l : List Nd) (n : Nd) (w : World) (h : Ring w c r mp l) (hn : NdIs w n o (.pointer none)) (hnew : ¬ RingSet c l n.b) :
    Calls Try.prog 32 #[pt c, pt n.b] w fun e w' => e = .returned (.tuple #[]) ∧ Ring w' c r mp (l ++ [n]) ∧
      Turned (RingSet c (l ++ [n])) w w' ∧ w'.heap.size = w.heap.size := by
  obtain ⟨hb, hs, hdist⟩ := h
  simp only [RingSet, not_or] at hnew
  rcases split_last l with rfl | ⟨a, p, rfl⟩
  · refine (hang_first c n.b _ _ _ _ _ _ w (Ne.symm hnew.1) hb hn).mono ?_
    rintro e w' ⟨he, g1, g2, g3, g4⟩
    exact ⟨he, ⟨g1, ⟨g2, trivial⟩, by simp [Ne.symm hnew.1]⟩, g3.mono fun i _ q => by rcases q with rfl | rfl <;> simp [RingSet], g4⟩
  · rw [seg_app] at hs
    obtain ⟨ha, hp, -⟩ := hs
    have e4 : c ≠ p.b := by intro q; simp [q] at hdist
    have e5 : n.b ≠ p.b := by intro q; simp [q] at hnew
    refine (hang_more c n.b p.b _ _ _ _ _ _ _ _ _ w (Ne.symm hnew.1) e4 e5 (by simpa only [List.append_assoc, List.cons_append, List.nil_append, List.append_nil, hd_app, hd_cons, hd_nil, lst_app, lst_cons, lst_nil, pto_some] using hb) hn hp).mono ?_
    rintro e w' ⟨he, g1, g2, g3, g4, g5⟩
    simp only [List.map_append, List.map_cons, List.map_nil, List.nodup_cons, List.nodup_append, List.mem_append, List.mem_cons, not_or, List.not_mem_nil, not_false_eq_true] at hdist hnew
    have hna : ∀ m ∈ a, ¬ (m.b = c ∨ m.b = n.b ∨ m.b = p.b) := by
      intro m hm z
      have hm' : m.b ∈ a.map (·.b) := List.mem_map.2 ⟨m, hm, rfl⟩
      rcases z with z | z | z <;> rw [z] at hm'
      · exact hdist.1.1 hm'
      · exact hnew.2.1 hm'
      · exact hdist.2.2.2 _ hm' p.b (by simp) rfl
    refine ⟨he, ⟨?_, ?_, ?_⟩, g4.mono fun i _ z => by rcases z with rfl | rfl | rfl <;> simp [RingSet], g5⟩
    · simpa only [List.append_assoc, List.cons_append, List.nil_append, List.append_nil, hd_app, hd_cons, hd_nil, lst_app, lst_cons, lst_nil, pto_some] using g1
    · rw [List.append_assoc, seg_app, List.singleton_append]
      exact ⟨Seg.turned g4 (by simpa [hd] using ha) hna, g3, by rw [show lst (a ++ [p]) none = some p.b from lst_snoc _ _ _] at *; exact ⟨g2, trivial⟩⟩
    · simp only [List.append_assoc, List.map_append, List.map_cons, List.map_nil, List.nodup_cons, List.nodup_append, List.mem_append, List.mem_cons, not_or, List.singleton_append, List.not_mem_nil, not_false_eq_true]
      refine ⟨⟨hdist.1.1, e4, Ne.symm hnew.1, trivial⟩, hdist.2.1, ?_, ?_⟩
      · simp [Ne.symm e5]
      · intro x hx y hy
        rcases hy with hy | hy | hy
        · exact hdist.2.2.2 x hx y (by simp [hy])
        · intro z; subst z; subst hy; exact hnew.2.1 hx
        · simp at hy

end Go.Proofs.Ytbhafcmdmpebiaa
