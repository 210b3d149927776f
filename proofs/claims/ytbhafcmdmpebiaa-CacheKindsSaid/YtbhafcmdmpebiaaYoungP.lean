/- The plain law behind CacheYoung: what a round makes of the list of keys. -/
import Derived.Test.YtbhafcmdmpebiaaKv
namespace Go.Proofs.Ytbhafcmdmpebiaa
open Go.RowKit Go.Mine

def YInv (n : Nat) (kv : KV) (U : Int → Prop) (u : Nat) : Prop :=
  ∃ A : KV, kv = A ++ [(-1, 7)] ∧ kv.length ≤ n ∧ (u + 2 ≤ n → ∃ B : KV, A = (-2, 8) :: B ∧ B.length = u ∧ ∀ k, U k ↔ k ∈ B.map (·.1)) ∧ (n < u + 2 → ∀ x ∈ A, x.1 ≠ -2)

theorem has_iff (kv : KV) (k : Int) : has kv k = true ↔ k ∈ kv.map (·.1) := by
  simp only [has, List.any_eq_true, decide_eq_true_eq, List.mem_map]
theorem without_id {kv : KV} {k : Int} (h : k ∉ kv.map (·.1)) : without kv k = kv := by
  simp only [without, List.filter_eq_self, decide_eq_true_eq]
  intro x hx q; exact h (List.mem_map.2 ⟨x, hx, q⟩)
theorem without_app (a b : KV) (k : Int) : without (a ++ b) k = without a k ++ without b k := List.filter_append ..
theorem mem_without {kv : KV} {k y : Int} : y ∈ (without kv k).map (·.1) ↔ y ∈ kv.map (·.1) ∧ y ≠ k := by
  simp only [without, List.mem_map, List.mem_filter, decide_eq_true_eq]
  constructor
  · rintro ⟨x, ⟨h1, h2⟩, rfl⟩; exact ⟨⟨x, h1, rfl⟩, h2⟩
  · rintro ⟨⟨x, h1, rfl⟩, h2⟩; exact ⟨x, ⟨h1, h2⟩, rfl⟩
theorem without_len : ∀ {kv : KV} {k : Int}, (kv.map (·.1)).Nodup → k ∈ kv.map (·.1) → (without kv k).length + 1 = kv.length
  | [], _, _, h => by simp at h
  | x :: r, k, hn, h => by
    rw [List.map_cons, List.nodup_cons] at hn
    by_cases e : x.1 = k
    · have : k ∉ r.map (·.1) := e ▸ hn.1
      have := without_id this
      unfold without at this ⊢
      rw [List.filter_cons_of_neg (by simpa using e), this]; rfl
    · have hr : k ∈ r.map (·.1) := by
        rw [List.map_cons, List.mem_cons] at h
        rcases h with h | h
        · exact absurd h.symm e
        · exact h
      have := without_len hn.2 hr
      unfold without at this ⊢
      rw [List.filter_cons_of_pos (by simpa using e), List.length_cons, this]; rfl

theorem get_last {A1 : KV} {k : Int} (hk : k ≠ -1) (h : (-1 : Int) ∉ A1.map (·.1)) :
    findKv (A1 ++ [(-1, 7)] ++ [(k, 1)]) (-1) = some (-1, 7) ∧ getKv (A1 ++ [(-1, 7)] ++ [(k, 1)]) (-1) = (A1 ++ [(k, 1)]) ++ [(-1, 7)] := by
  have e1 : findKv (A1 ++ [(-1, 7)] ++ [(k, 1)]) (-1) = some (-1, 7) := by
    have : A1.find? (fun x => decide (x.1 = -1)) = none := by
      rw [List.find?_eq_none]; intro x hx q; exact h (List.mem_map.2 ⟨x, hx, by simpa using q⟩)
    simp [findKv, List.find?_append, this]
  refine ⟨e1, ?_⟩
  rw [getKv, e1]
  simp only [without_app, without_id h]
  simp [without, hk]

theorem young_step {n : Nat} {kv : KV} {U : Int → Prop} {u : Nat} {k : Int} (hn : 2 ≤ n) (hd0 : (kv.map (·.1)).Nodup) (h1 : k ≠ -1) (h2 : k ≠ -2) (h : YInv n kv U u) [Decidable (U k)] :
    findKv (putKv n kv k 1) (-1) = some (-1, 7) ∧ YInv n (getKv (putKv n kv k 1) (-1)) (fun y => U y ∨ y = k) (if U k then u else u + 1) := by
  obtain ⟨A, rfl, hlen, hin, hout⟩ := h
  rw [List.map_append, List.nodup_append] at hd0
  obtain ⟨hA, -, hA7⟩ := hd0
  have hm1 : (-1 : Int) ∉ A.map (·.1) := fun q => hA7 _ q (-1) (by simp) rfl
  rw [List.length_append, List.length_singleton] at hlen
  by_cases hh : has (A ++ [(-1, 7)]) k = true
  · have hkA : k ∈ A.map (·.1) := by
      have := (has_iff _ _).1 hh
      simp only [List.map_append, List.mem_append, List.map_cons, List.map_nil, List.mem_singleton] at this
      rcases this with q | q
      · exact q
      · exact absurd q h1
    have e1 : putKv n (A ++ [(-1, 7)]) k 1 = without A k ++ [(-1, 7)] ++ [(k, 1)] := by
      rw [putKv, if_pos hh, without_app]
      congr 1
      rw [without_id (kv := [(-1, 7)])]
      simpa using h1
    have hm : (-1 : Int) ∉ (without A k).map (·.1) := fun q => hm1 (mem_without.1 q).1
    obtain ⟨g1, g2⟩ := get_last h1 hm
    rw [e1, g2]
    refine ⟨g1, _, rfl, ?_, fun hu => ?_, fun hu => ?_⟩
    · have := without_len hA hkA
      simp only [List.length_append, List.length_singleton]; omega
    · by_cases hu0 : u + 2 ≤ n
      · obtain ⟨B, rfl, hB, hUB⟩ := hin hu0
        have hkB : k ∈ B.map (·.1) := by
          rw [List.map_cons, List.mem_cons] at hkA
          rcases hkA with q | q
          · exact absurd q h2
          · exact q
        rw [List.map_cons, List.nodup_cons] at hA
        refine ⟨without B k ++ [(k, 1)], ?_, ?_, fun y => ?_⟩
        · unfold without
          rw [List.filter_cons_of_pos (by simpa using Ne.symm h2)]; rfl
        · have := without_len hA.2 hkB
          rw [if_pos ((hUB k).2 hkB), List.length_append, List.length_singleton, this, hB]
        · show (U y ∨ y = k) ↔ _
          rw [List.map_append, List.mem_append, mem_without, hUB]
          by_cases hy : y = k
          · simp [hy]
          · simp [hy]
      · exfalso; revert hu; split <;> omega
    · by_cases hu0 : u + 2 ≤ n
      · obtain ⟨B, rfl, hB, hUB⟩ := hin hu0
        have hkB : k ∈ B.map (·.1) := by
          rw [List.map_cons, List.mem_cons] at hkA
          rcases hkA with q | q
          · exact absurd q h2
          · exact q
        rw [if_pos ((hUB k).2 hkB)] at hu; omega
      · intro x hx
        rcases List.mem_append.1 hx with hx | hx
        · exact hout (by omega) x (List.mem_filter.1 hx).1
        · rw [List.mem_singleton] at hx; subst hx; exact h2
  · have hkA : k ∉ A.map (·.1) := fun q => hh ((has_iff _ _).2 (by simp only [List.map_append, List.mem_append]; exact .inl q))
    rw [putKv, if_neg hh]
    rw [List.length_append, List.length_singleton]
    by_cases hr : ((A.length + 1 + 1 : Nat) : Int) ≤ (n : Int)
    · rw [if_pos hr]
      obtain ⟨g1, g2⟩ := get_last h1 hm1
      rw [g2]
      refine ⟨g1, _, rfl, ?_, fun hu => ?_, fun hu => ?_⟩
      · simp only [List.length_append, List.length_singleton]; omega
      · by_cases hu0 : u + 2 ≤ n
        · obtain ⟨B, rfl, hB, hUB⟩ := hin hu0
          rw [List.map_cons, List.mem_cons, not_or] at hkA
          refine ⟨B ++ [(k, 1)], rfl, ?_, fun y => ?_⟩
          · rw [if_neg (fun q => hkA.2 ((hUB k).1 q)), List.length_append, hB]; rfl
          · show (U y ∨ y = k) ↔ _
            rw [List.map_append, List.mem_append, hUB]; simp
        · exfalso; revert hu; split <;> omega
      · by_cases hu0 : u + 2 ≤ n
        · obtain ⟨B, rfl, hB, hUB⟩ := hin hu0
          rw [List.map_cons, List.mem_cons, not_or] at hkA
          rw [if_neg (fun q => hkA.2 ((hUB k).1 q))] at hu
          simp only [List.length_cons] at hr; omega
        · intro x hx
          rcases List.mem_append.1 hx with hx | hx
          · exact hout (by omega) x hx
          · rw [List.mem_singleton] at hx; subst hx; exact h2
    · rw [if_neg hr]
      cases A with
      | nil => simp at hr; omega
      | cons a A =>
        rw [List.map_cons, List.mem_cons, not_or] at hkA hm1
        rw [List.map_cons, List.nodup_cons] at hA
        obtain ⟨g1, g2⟩ := get_last h1 hm1.2
        have et : List.tail (a :: A ++ [(-1, 7)] ++ [(k, 1)]) = A ++ [(-1, 7)] ++ [(k, 1)] := rfl
        rw [et, g2]
        simp only [List.length_cons] at hlen hr
        refine ⟨g1, _, rfl, ?_, fun hu => ?_, fun hu => ?_⟩
        · simp only [List.length_append, List.length_singleton]; omega
        · by_cases hu0 : u + 2 ≤ n
          · obtain ⟨B, hAB, hB, hUB⟩ := hin hu0
            obtain ⟨rfl, rfl⟩ := List.cons.inj hAB
            rw [if_neg (fun q => hkA.2 ((hUB k).1 q))] at hu; omega
          · exfalso; revert hu; split <;> omega
        · intro x hx
          rcases List.mem_append.1 hx with hx | hx
          · by_cases hu0 : u + 2 ≤ n
            · obtain ⟨B, hAB, hB, hUB⟩ := hin hu0
              obtain ⟨rfl, rfl⟩ := List.cons.inj hAB
              exact fun q => hA.1 (List.mem_map.2 ⟨x, hx, q⟩)
            · exact hout (by omega) x (List.mem_cons_of_mem _ hx)
          · rw [List.mem_singleton] at hx; subst hx; exact h2

theorem YInv.congr {n : Nat} {kv : KV} {U U' : Int → Prop} {u : Nat} (h : YInv n kv U u) (hU : ∀ y, U' y ↔ U y) : YInv n kv U' u := by
  obtain ⟨A, h1, h2, h3, h4⟩ := h
  refine ⟨A, h1, h2, fun hu => ?_, h4⟩
  obtain ⟨B, e1, e2, e3⟩ := h3 hu
  exact ⟨B, e1, e2, fun k => (hU k).trans (e3 k)⟩

theorem young_start {n : Nat} (hn : 2 ≤ n) : YInv n (putKv n (putKv n [] (-2) 8) (-1) 7) (fun _ => False) 0 := by
  have e1 : putKv n [] (-2) 8 = [(-2, 8)] := by
    have h0 : has [] (-2) = false := rfl
    rw [putKv, h0, if_neg (by simp), if_pos (by simp; omega)]; rfl
  have e2 : putKv n [(-2, 8)] (-1) 7 = [(-2, 8), (-1, 7)] := by
    have h0 : has [(-2, 8)] (-1) = false := rfl
    rw [putKv, h0, if_neg (by simp), if_pos (by simp; omega)]; rfl
  rw [e1, e2]
  refine ⟨[(-2, 8)], rfl, hn, fun _ => ⟨[], rfl, rfl, by simp⟩, fun h => by omega⟩

theorem young_end {n : Nat} {kv : KV} {U : Int → Prop} {u : Nat} (h : YInv n kv U u) : (findKv kv (-2)).isSome = decide (u + 2 ≤ n) := by
  obtain ⟨A, rfl, hlen, hin, hout⟩ := h
  by_cases hu : u + 2 ≤ n
  · obtain ⟨B, rfl, -, -⟩ := hin hu
    simp [findKv, hu]
  · have := hout (by omega)
    simp only [hu, decide_false]
    rw [findKv, List.find?_append, List.find?_eq_none.2 (fun x hx => by simpa using this x hx)]
    rfl

end Go.Proofs.Ytbhafcmdmpebiaa
