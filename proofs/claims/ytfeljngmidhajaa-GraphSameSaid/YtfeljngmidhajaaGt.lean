/- Graph files: what one is told as: plain. -/
import Derived.Test.YtfeljngmidhajaaGw10
namespace Go.Proofs.Ytfeljngmidhajaa
open Go.RowKit Go.Mine

/-- rows, list, ends, bits -/
structure Tl where
  R : List UInt8
  E : List UInt8
  N : List UInt8
  B : List UInt8
def stepT (t : Tl) (r : Rw) : Tl := ⟨t.R ++ rowB r t.E.length, t.E ++ edgeB r, t.N ++ num (t.B ++ r.bits.data.toList).length 4, t.B ++ r.bits.data.toList⟩
def tellT (l : List Rw) : Tl := l.foldl stepT ⟨[], [], [], []⟩
theorem tellT_snoc (l : List Rw) (r : Rw) : tellT (l ++ [r]) = stepT (tellT l) r := by simp [tellT]
theorem tellT_take (l : List Rw) (j : Nat) (r : Rw) (h : l[j]? = some r) : tellT (l.take (j + 1)) = stepT (tellT (l.take j)) r := by
  rw [List.take_add_one, h]
  exact tellT_snoc _ _
def headB (g : Gr) : List UInt8 := num g.base.toNat 4 ++ num g.rows.length 4 ++ num g.h.toNat 1 ++ num g.p.toNat 1 ++ num g.m.toNat 2 ++ num g.seed 4
def chunksG (g : Gr) : List Ch := [(1, ⟨(headB g).toArray⟩), (2, ⟨(tellT g.rows).R.toArray⟩), (3, ⟨(tellT g.rows).E.toArray⟩), (4, ⟨(tellT g.rows).N.toArray⟩), (5, ⟨(tellT g.rows).B.toArray⟩)]
noncomputable def encG (g : Gr) : Value :=
  if grErr g = 0 then if 4194304 < (tellT g.rows).B.length then .tuple #[.string ⟨#[]⟩, .int .i64 5] else buildV (chunksG g) else .tuple #[.string ⟨#[]⟩, .int .i64 1]

theorem foldl_snocInd {α β : Type} (f : β → α → β) (P : List α → β → Prop) (b : β) (h0 : P [] b) (h1 : ∀ l x c, P l c → P (l ++ [x]) (f c x)) (l : List α) : P l (l.foldl f b) := by
  have : ∀ (k : List α) (pre : List α) (c : β), P pre c → P (pre ++ k) (k.foldl f c) := by
    intro k
    induction k with
    | nil => intro pre c hc; simpa using hc
    | cons x k ih =>
      intro pre c hc
      have := ih (pre ++ [x]) (f c x) (h1 pre x c hc)
      simpa using this
  simpa using this l [] b h0
theorem tellT_R (l : List Rw) : (tellT l).R.length = 15 * l.length := by
  refine foldl_snocInd stepT (fun l t => t.R.length = 15 * l.length) _ rfl (fun l x c h => ?_) l
  simp only [stepT, List.length_append, rowB_length, h, List.length_cons, List.length_nil]; omega
theorem tellT_N (l : List Rw) : (tellT l).N.length = 4 * l.length := by
  refine foldl_snocInd stepT (fun l t => t.N.length = 4 * l.length) _ rfl (fun l x c h => ?_) l
  simp only [stepT, List.length_append, num_length, h, List.length_cons, List.length_nil]; omega
theorem tellT_E (l : List Rw) (hl : ∀ r ∈ l, r.par.length ≤ 16) : (tellT l).E.length ≤ 64 * l.length := by
  have := foldl_snocInd stepT (fun l t => (∀ r ∈ l, r.par.length ≤ 16) → t.E.length ≤ 64 * l.length) ⟨[], [], [], []⟩ (by simp) (fun l x c h hl => by
    have h1 := h fun r hr => hl r (by simp [hr])
    have h2 := edgeB_length x
    have h3 := hl x (by simp)
    simp only [stepT, List.length_append, List.length_cons, List.length_nil]; omega) l
  exact this hl
theorem tellT_B_mono (l : List Rw) (j : Nat) : (tellT (l.take j)).B.length ≤ (tellT l).B.length := by
  have : ∀ (k : List Rw) (pre : List Rw), (tellT pre).B.length ≤ (tellT (pre ++ k)).B.length := by
    intro k
    induction k with
    | nil => intro pre; simp
    | cons x k ih =>
      intro pre
      have h1 := ih (pre ++ [x])
      rw [tellT_snoc] at h1
      simp only [stepT, List.length_append] at h1
      rw [List.append_assoc] at h1
      simp only [List.singleton_append] at h1
      omega
  have h := this (l.drop j) (l.take j)
  rwa [List.take_append_drop] at h

/-- five of a kind, by their places -/
def five {α : Type} (a b c d e : α) : Nat → α
  | 0 => a
  | 1 => b
  | 2 => c
  | 3 => d
  | _ + 4 => e
section
variable {α : Type} (a b c d e x y : α)
theorem five0 : upd (five a b c d e) 0 x = five x b c d e := by funext i; rcases i with _ | _ | _ | _ | i <;> simp [upd, five]
theorem five_row : upd (upd (five a b c d e) 2 y) 1 x = five a x y d e := by funext i; rcases i with _ | _ | _ | _ | i <;> simp [upd, five]
theorem five3 : upd (five a b c d e) 3 x = five a b c x e := by funext i; rcases i with _ | _ | _ | _ | i <;> simp [upd, five]
theorem five4 (i : Nat) (hi : i < 5) : upd (five a b c d e) 4 x i = five a b c d x i := by rcases i with _ | _ | _ | _ | _ | i <;> first | (exfalso; omega) | simp [upd, five]
theorem five_new (p : Nat → α) (i : Nat) (hi : i < 5) : upd (upd (upd (upd (upd p 0 a) 1 b) 2 c) 3 d) 4 e i = five a b c d e i := by rcases i with _ | _ | _ | _ | _ | i <;> first | (exfalso; omega) | simp [upd, five]
end

theorem RwIs.bound {w : World} {S : Nat → Prop} {a : Option Addr} {cap : Nat} {l : List Rw} (h : RwIs w S a cap l) : RwIs w (fun b => b < w.heap.size) a cap l := by
  obtain ⟨h1, h2, h3, h4⟩ := h
  refine ⟨h1, h2, h3, fun q => ?_⟩
  obtain ⟨g, off, rfl, hg, hl, hc⟩ := h4 q
  refine ⟨g, off, rfl, hl, hl, fun i r hr => ?_⟩
  obtain ⟨a, cap, ⟨i1, i2, i3, i4⟩, k⟩ := hc i r hr
  refine ⟨a, cap, ⟨i1, i2, i3, fun q => ?_⟩, k⟩
  obtain ⟨g, off, rfl, hg, hl, hc⟩ := i4 q
  exact ⟨g, off, rfl, hl, hl, hc⟩

/-- the five chunks as they are laid -/
theorem chIs_five (w : World) (a b c d e : ByteArray) (hs : a.size ≤ 140737488355328 ∧ b.size ≤ 140737488355328 ∧ c.size ≤ 140737488355328 ∧ d.size ≤ 140737488355328 ∧ e.size ≤ 140737488355328) :
    ChIs (w.alloc (.cells #[.int .u32 1, .string a, .int .u32 2, .string b, .int .u32 3, .string c, .int .u32 4, .string d, .int .u32 5, .string e] 31)) (some ⟨w.heap.size, 0, none⟩) 5 [(1, a), (2, b), (3, c), (4, d), (5, e)] := by
  obtain ⟨h1, h2, h3, h4, h5⟩ := hs
  have hh := heap_alloc_last w (.cells #[.int .u32 1, .string a, .int .u32 2, .string b, .int .u32 3, .string c, .int .u32 4, .string d, .int .u32 5, .string e] 31)
  refine ⟨Nat.le_refl _, by simp [maxLen], fun x hx => ?_, fun _ => ⟨w.heap.size, 0, rfl, by simp, fun i x hi => ?_⟩⟩
  · simp only [List.mem_cons, List.not_mem_nil, or_false] at hx
    rcases hx with rfl | rfl | rfl | rfl | rfl
    · exact ⟨(by decide : (1 : Nat) < 4294967296), h1⟩
    · exact ⟨(by decide : (2 : Nat) < 4294967296), h2⟩
    · exact ⟨(by decide : (3 : Nat) < 4294967296), h3⟩
    · exact ⟨(by decide : (4 : Nat) < 4294967296), h4⟩
    · exact ⟨(by decide : (5 : Nat) < 4294967296), h5⟩
  · rcases i with _ | _ | _ | _ | _ | i
    · obtain rfl := Option.some.inj hi; exact ⟨cell_of hh 0 _ rfl, cell_of hh 1 _ rfl⟩
    · obtain rfl := Option.some.inj hi; exact ⟨cell_of hh 2 _ rfl, cell_of hh 3 _ rfl⟩
    · obtain rfl := Option.some.inj hi; exact ⟨cell_of hh 4 _ rfl, cell_of hh 5 _ rfl⟩
    · obtain rfl := Option.some.inj hi; exact ⟨cell_of hh 6 _ rfl, cell_of hh 7 _ rfl⟩
    · obtain rfl := Option.some.inj hi; exact ⟨cell_of hh 8 _ rfl, cell_of hh 9 _ rfl⟩
    · simp at hi
end Go.Proofs.Ytfeljngmidhajaa
