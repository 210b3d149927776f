/- The plain law behind CacheKinds: what a Put makes of the order of keys. -/
import Derived.Test.YtbhafcmdmpebiaaPairK
import Derived.Test.YtbhafcmdmpebiaaYoungW
import Derived.OpenShut
namespace Go.Proofs.Ytbhafcmdmpebiaa.Pair
open Go.RowKit Go.Mine

def keysOf (kv : KV) : List Pr := kv.map (·.1)
/-- the order behind a Put, as the law reckons it, ahead of the cut -/
def nextOrder (kv : KV) (k : Pr) : List Pr := (keysOf kv).filter (fun x => decide (x ≠ k)) ++ [k]

theorem has_iff (kv : KV) (k : Pr) : has kv k = true ↔ k ∈ keysOf kv := by
  simp only [has, keysOf, List.any_eq_true, decide_eq_true_eq, List.mem_map]
theorem filter_keys (kv : KV) (k : Pr) : (keysOf kv).filter (fun x => decide (x ≠ k)) = keysOf (without kv k) := by
  simp only [keysOf, without, List.filter_map]; rfl
theorem without_len : ∀ {kv : KV} {k : Pr}, (kv.map (·.1)).Nodup → k ∈ keysOf kv → (without kv k).length + 1 = kv.length
  | [], _, _, h => by simp [keysOf] at h
  | x :: r, k, hn, h => by
    rw [List.map_cons, List.nodup_cons] at hn
    by_cases e : x.1 = k
    · have hk : k ∉ r.map (·.1) := e ▸ hn.1
      have : without r k = r := by
        simp only [without, List.filter_eq_self, decide_eq_true_eq]
        intro y hy q; exact hk (List.mem_map.2 ⟨y, hy, q⟩)
      unfold without at this ⊢
      rw [List.filter_cons_of_neg (by simpa using e), this]; rfl
    · have hr : k ∈ keysOf r := by
        rw [keysOf, List.map_cons, List.mem_cons] at h
        rcases h with h | h
        · exact absurd h.symm e
        · exact h
      have := without_len hn.2 hr
      unfold without at this ⊢
      rw [List.filter_cons_of_pos (by simpa using e), List.length_cons, this]; rfl

theorem keysOf_length (kv : KV) : (keysOf kv).length = kv.length := List.length_map _

theorem kinds_step {N : Nat} {kv : KV} {k : Pr} {v : Sv} (hnd : (kv.map (·.1)).Nodup) (h2 : ∀ x ∈ kv, x.2.n = 2) (hv : v.n = 2) (hl : kv.length ≤ N) :
    ((putRet N kv k v = (⟨0, false⟩, ⟨none, 0, 0⟩, false) ∧ keysOf (putKv N kv k v) = nextOrder kv k ∧ (nextOrder kv k).length ≤ N) ∨
      (∃ ok ov, putRet N kv k v = (ok, ov, true) ∧ ov.n = 2 ∧ nextOrder kv k = ok :: keysOf (putKv N kv k v) ∧ N < (nextOrder kv k).length)) ∧
    (∀ x ∈ putKv N kv k v, x.2.n = 2) ∧ (putKv N kv k v).length ≤ N := by
  have hno : nextOrder kv k = keysOf (without kv k ++ [(k, v)]) := by
    rw [nextOrder, filter_keys]; simp [keysOf]
  by_cases hh : has kv k = true
  · have hk := (has_iff _ _).1 hh
    have hlen := without_len hnd hk
    have e1 : putKv N kv k v = without kv k ++ [(k, v)] := by rw [putKv, if_pos hh]
    have e2 : putRet N kv k v = (⟨0, false⟩, ⟨none, 0, 0⟩, false) := by rw [putRet, if_pos hh]
    rw [e1, e2, hno]
    refine ⟨.inl ⟨rfl, rfl, ?_⟩, ?_, ?_⟩
    · rw [keysOf_length, List.length_append, List.length_singleton, hlen]; exact hl
    · intro x hx
      rcases List.mem_append.1 hx with hx | hx
      · exact h2 x (List.mem_filter.1 hx).1
      · rw [List.mem_singleton] at hx; subst hx; exact hv
    · rw [List.length_append, List.length_singleton, hlen]; exact hl
  · have hwo : without kv k = kv := by
      simp only [without, List.filter_eq_self, decide_eq_true_eq]
      intro y hy q; exact hh ((has_iff _ _).2 (List.mem_map.2 ⟨y, hy, q⟩))
    rw [hwo] at hno
    have hall : ∀ x ∈ kv ++ [(k, v)], x.2.n = 2 := by
      intro x hx
      rcases List.mem_append.1 hx with hx | hx
      · exact h2 x hx
      · rw [List.mem_singleton] at hx; subst hx; exact hv
    by_cases hr : ((kv.length + 1 : Nat) : Int) ≤ (N : Int)
    · have e1 : putKv N kv k v = kv ++ [(k, v)] := by rw [putKv, if_neg hh, if_pos hr]
      have e2 : putRet N kv k v = (⟨0, false⟩, ⟨none, 0, 0⟩, false) := by rw [putRet, if_neg hh, if_pos hr]
      rw [e1, e2, hno]
      refine ⟨.inl ⟨rfl, rfl, ?_⟩, hall, ?_⟩
      · rw [keysOf_length, List.length_append, List.length_singleton]; omega
      · rw [List.length_append, List.length_singleton]; omega
    · have e1 : putKv N kv k v = (kv ++ [(k, v)]).tail := by rw [putKv, if_neg hh, if_neg hr]
      have e2 : putRet N kv k v = headRet (kv ++ [(k, v)]) := by rw [putRet, if_neg hh, if_neg hr]
      obtain ⟨x, t, hxt⟩ : ∃ x t, kv ++ [(k, v)] = x :: t := by
        cases kv with
        | nil => exact ⟨_, _, rfl⟩
        | cons a b => exact ⟨_, _, rfl⟩
      have hll : t.length = kv.length := by have := congrArg List.length hxt; simp at this; omega
      rw [e1, e2, hno, hxt]
      refine ⟨.inr ⟨x.1, x.2, rfl, ?_, rfl, ?_⟩, ?_, ?_⟩
      · exact hall x (by rw [hxt]; simp)
      · rw [keysOf_length, List.length_cons]; omega
      · intro y hy; exact hall y (by rw [hxt]; exact List.mem_cons_of_mem _ hy)
      · rw [List.tail_cons]; omega

theorem peek_two {kv : KV} {k : Pr} (h2 : ∀ x ∈ kv, x.2.n = 2) : (findKv kv k).isSome = (((valOf (findKv kv k)).n : Int) == 2) := by
  cases h : findKv kv k with
  | none => rfl
  | some x =>
    have := h2 x (List.mem_of_find?_eq_some h)
    simp [valOf, this]

theorem kcells_cons (k : Pr) (ks : List Pr) : kcells (k :: ks) = .int .i8 k.a :: .bool k.t :: kcells ks := rfl
theorem kcells_get0 : ∀ (ks : List Pr) (j : Nat), j < ks.length → (kcells ks)[j * 2]? = some (.int .i8 (ks.getD j ⟨0, false⟩).a)
  | [], j, h => by simp at h
  | x :: r, 0, _ => rfl
  | x :: r, j + 1, h => by
    rw [kcells_cons, show (j + 1) * 2 = j * 2 + 1 + 1 by omega, List.getElem?_cons_succ, List.getElem?_cons_succ, kcells_get0 r j (by simpa using h)]; rfl
theorem kcells_get1 : ∀ (ks : List Pr) (j : Nat), j < ks.length → (kcells ks)[j * 2 + 1]? = some (.bool (ks.getD j ⟨0, false⟩).t)
  | [], j, h => by simp at h
  | x :: r, 0, _ => rfl
  | x :: r, j + 1, h => by
    rw [kcells_cons, show (j + 1) * 2 + 1 = j * 2 + 1 + 1 + 1 by omega, List.getElem?_cons_succ, List.getElem?_cons_succ, kcells_get1 r j (by simpa using h)]; rfl
theorem take_filter_succ (ks : List Pr) (k : Pr) (t : Nat) (h : t < ks.length) :
    (ks.take (t + 1)).filter (fun x => decide (x ≠ k)) = (ks.take t).filter (fun x => decide (x ≠ k)) ++ (if ks.getD t ⟨0, false⟩ = k then [] else [ks.getD t ⟨0, false⟩]) := by
  rw [List.take_succ_eq_append_getElem h, List.filter_append]
  have e : ks.getD t ⟨0, false⟩ = ks[t] := by simp [List.getD, h]
  rw [e]
  congr 1
  by_cases hk : ks[t] = k <;> simp [hk]
theorem filter_len_le (ks : List Pr) (k : Pr) (t : Nat) : ((ks.take t).filter (fun x => decide (x ≠ k))).length ≤ ks.length :=
  Nat.le_trans (List.length_filter_le _ _) (by rw [List.length_take]; omega)

theorem turned_drewN (S : Nat → Prop) (w : World) (n : Nat) : Turned S w (w.drewN n) := ⟨rfl, rfl, rfl, Nat.le_refl _, fun _ _ _ => rfl⟩
theorem sl_bound {w : World} {S : Nat → Prop} {e : TypeId} {size : Nat} {v : Value} {xs : List Value} {n : Nat} (h : Sl w S e size v xs n) : Sl w (fun b => S b ∧ b < w.heap.size) e size v xs n := by
  refine ⟨h.1, ?_⟩
  rcases h.2 with q | ⟨g, off, cap, cur, q1, q2, q3, q4⟩
  · exact .inl q
  · exact .inr ⟨g, off, cap, cur, q1, ⟨q2, lt_of_block q3⟩, q3, q4⟩

theorem isRow_bounds {w : World} {a : Option Addr} {len cap : Nat} {zs : List Int} (h : IsRow .u8 w a len cap zs) {j : Nat} (hj : j < len) : 0 ≤ zs.getD j 0 ∧ zs.getD j 0 ≤ 255 := by
  rcases h with ⟨-, rfl, -, -⟩ | ⟨x, -, h1, -, h2, -, h4⟩
  · omega
  · refine _root_.Go.bounds_u8 (h4 _ ?_)
    have hl : j < zs.length := by omega
    unfold List.getD; rw [List.getElem?_eq_getElem hl]; exact List.getElem_mem hl

end Go.Proofs.Ytbhafcmdmpebiaa.Pair
