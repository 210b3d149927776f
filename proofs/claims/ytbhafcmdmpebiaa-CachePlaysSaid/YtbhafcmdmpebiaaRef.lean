/- The document's answer for the cache (a list of pairs): what its methods answer and leave. -/
import Derived.Test.YtbhafcmdmpebiaaYoungP
import Derived.Deep.LoopGhost
namespace Go.Proofs.Ytbhafcmdmpebiaa
open Go.RowKit Go.Mine

def flat (kv : KV) : List Value := kv.flatMap fun x => [.int .i64 x.1, .int .i64 x.2]
theorem flat_nil : flat [] = [] := rfl
theorem flat_cons (x : Int × Int) (kv : KV) : flat (x :: kv) = .int .i64 x.1 :: .int .i64 x.2 :: flat kv := rfl
theorem flat_app (a b : KV) : flat (a ++ b) = flat a ++ flat b := List.flatMap_append ..
theorem flat_length : ∀ kv : KV, (flat kv).length = kv.length * 2
  | [] => rfl
  | x :: r => by rw [flat_cons]; simp [flat_length r]; omega
theorem flat_take : ∀ (kv : KV) (j : Nat), (flat kv).take (j * 2) = flat (kv.take j)
  | [], j => by simp [flat_nil]
  | x :: r, 0 => by simp [flat_nil]
  | x :: r, j + 1 => by rw [flat_cons, show (j + 1) * 2 = j * 2 + 1 + 1 by omega, List.take_succ_cons, List.take_succ_cons, flat_take r j]; rfl
theorem flat_drop : ∀ (kv : KV) (j : Nat), (flat kv).drop (j * 2) = flat (kv.drop j)
  | [], j => by simp [flat_nil]
  | x :: r, 0 => by simp
  | x :: r, j + 1 => by rw [flat_cons, show (j + 1) * 2 = j * 2 + 1 + 1 by omega, List.drop_succ_cons, List.drop_succ_cons, flat_drop r j]; rfl
theorem flat_get0 : ∀ (kv : KV) (j : Nat), j < kv.length → (flat kv)[j * 2]? = some (.int .i64 (kv.getD j (0, 0)).1)
  | [], j, h => by simp at h
  | x :: r, 0, _ => rfl
  | x :: r, j + 1, h => by
    rw [flat_cons, show (j + 1) * 2 = j * 2 + 1 + 1 by omega, List.getElem?_cons_succ, List.getElem?_cons_succ, flat_get0 r j (by simpa using h)]; rfl
theorem flat_get1 : ∀ (kv : KV) (j : Nat), j < kv.length → (flat kv)[j * 2 + 1]? = some (.int .i64 (kv.getD j (0, 0)).2)
  | [], j, h => by simp at h
  | x :: r, 0, _ => rfl
  | x :: r, j + 1, h => by
    rw [flat_cons, show (j + 1) * 2 + 1 = j * 2 + 1 + 1 + 1 by omega, List.getElem?_cons_succ, List.getElem?_cons_succ, flat_get1 r j (by simpa using h)]; rfl
theorem flat_one (kv : KV) : ∀ u ∈ flat kv, u.oneCell' = true := by
  intro u hu
  obtain ⟨x, _, h⟩ := List.mem_flatMap.1 hu
  simp at h
  rcases h with rfl | rfl <;> rfl

theorem info83 : (Try.prog.info? 83).map (fun i => (i.zero, i.size, i.bytes)) = some (some (.agg #[.int .i64 0, .int .i64 0]), 2, 16) := by kernel_rfl

/-- the reference's cache at block r: room and list -/
def RefIs (w : World) (S : Nat → Prop) (r : Nat) (room : Int) (kv : KV) : Prop :=
  ∃ v, Blk w r #[.int .i64 room, v] 51 ∧ S r ∧ Sl w (fun b => S b ∧ b ≠ r) 83 2 v (flat kv) kv.length

theorem RefIs.turned {w w' : World} {S T : Nat → Prop} {r : Nat} {room : Int} {kv : KV} (h : RefIs w S r room kv) (ht : Turned T w w') (hS : ∀ b, S b → ¬ T b) : RefIs w' S r room kv := by
  obtain ⟨v, h1, h2, h3⟩ := h
  exact ⟨v, h1.turned ht (hS r h2), h2, h3.turned ht fun b hb => hS b hb.1⟩
theorem RefIs.widen {w : World} {S T : Nat → Prop} {r : Nat} {room : Int} {kv : KV} (h : RefIs w S r room kv) (hS : ∀ b, S b → T b) : RefIs w T r room kv := by
  obtain ⟨v, h1, h2, h3⟩ := h
  exact ⟨v, h1, hS r h2, h3.widen fun b hb => ⟨hS b hb.1, hb.2⟩⟩
theorem RefIs.bound {w : World} {S : Nat → Prop} {r : Nat} {room : Int} {kv : KV} (h : RefIs w S r room kv) : RefIs w (fun b => S b ∧ b < w.heap.size) r room kv := by
  obtain ⟨v, h1, h2, h3⟩ := h
  refine ⟨v, h1, ⟨h2, lt_of_block h1⟩, h3.1, ?_⟩
  rcases h3.2 with q | ⟨g, off, cap, cur, q1, q2, q3, q4⟩
  · exact .inl q
  · exact .inr ⟨g, off, cap, cur, q1, ⟨⟨q2.1, lt_of_block q3⟩, q2.2⟩, q3, q4⟩

def FindPost (kv : KV) (k : Int) (e : Ending) : Prop :=
  (∃ j : Nat, j < kv.length ∧ (kv.getD j (0, 0)).1 = k ∧ (∀ i, i < j → (kv.getD i (0, 0)).1 ≠ k) ∧ e = .returned (.int .i64 j)) ∨ ((∀ i, i < kv.length → (kv.getD i (0, 0)).1 ≠ k) ∧ e = .returned (.int .i64 (-1)))

set_option maxHeartbeats 1000000 in
theorem ref_find {w : World} {S : Nat → Prop} {r : Nat} {room : Int} {kv : KV} (k : Int) (h : RefIs w S r room kv) (hlen : Hid (kv.length ≤ 100000)) :
    Calls Try.prog 46 #[pt r, .int .i64 k] w fun e w' => FindPost kv k e ∧ w = w' := by
  obtain ⟨v, h1, -, h3⟩ := h
  obtain ⟨a, cap, rfl, hcap, hmax⟩ := h3.value
  have hA : Hid (0 < kv.length → ∃ g off, a = some ⟨g, off, none⟩ ∧ ∀ j, j < kv.length * 2 → w.cell? ⟨g, off + j, none⟩ = (flat kv)[j]?) := fun hp => by
    obtain ⟨g, off, cap', hv, -, -, -, hc, -⟩ := h3.opens hp
    injection hv with e1 e2 e3
    exact ⟨g, off, e1, hc⟩
  have r1 := cell_of h1 1 _ rfl
  obtain ⟨n, hn⟩ : ∃ n, n = kv.length := ⟨_, rfl⟩
  rw [← hn] at r1 hcap
  have HN : Hid (n = kv.length) := hn
  have hn5 : n ≤ 100000 := by rw [hn]; exact hlen
  clear h1 h3 hlen hmax hn
  go_enter Try.func46, Try.ntmps46
  go_wp2
  go_loopg [5] n (fun g i wr => ∃ j : Nat, j + g = n ∧ i = .int .i64 j ∧ (∀ i, i < j → (kv.getD i (0, 0)).1 ≠ k) ∧ w = wr)
  case atStart => exact ⟨0, Nat.zero_add _, rfl, fun i hi => by omega, rfl⟩
  case round =>
    obtain ⟨j, hj, rfl, hne, rfl⟩ := hrel
    have HNE : Hid (∀ i, i < j → (kv.getD i (0, 0)).1 ≠ k) := hne
    clear hne
    by_cases hlt : j < n
    · have hnk : n = kv.length := HN.out
      obtain ⟨g, off, rfl, hc⟩ := hA.out (by omega)
      have c0 := hc (j * 2) (by omega)
      rw [flat_get0 kv j (by omega)] at c0
      obtain ⟨y, hy⟩ : ∃ y, y = (kv.getD j (0, 0)).1 := ⟨_, rfl⟩
      rw [← hy] at c0
      have HY : Hid (y = (kv.getD j (0, 0)).1) := hy
      clear hnk hc hy hA
      by_cases hyk : y = k
      · subst hyk
        go_wp2
        go_ret
        exact ⟨.inl ⟨j, by have := HN.out; omega, HY.out.symm, HNE.out, rfl⟩, rfl⟩
      · have hyk2 : (y == k) = false := by simpa using hyk
        have H2 : Hid (y ≠ k) := hyk
        clear hyk
        go_wp2
        go_roundg (gk - 1)
        case measure => omega
        case rel =>
          refine ⟨j + 1, by omega, rfl, fun i hi => ?_, rfl⟩
          by_cases e : i = j
          · subst e; rw [← HY.out]; exact H2.out
          · exact HNE.out i (by omega)
    · go_wp2
      go_ret
      exact ⟨.inr ⟨fun i hi => HNE.out i (by have := HN.out; omega), rfl⟩, rfl⟩

theorem getD_mid (a b : KV) (x : Int × Int) : (a ++ x :: b).getD a.length (0, 0) = x := by simp [List.getD]
theorem getD_left {a b : KV} {i : Nat} (h : i < a.length) : (a ++ b).getD i (0, 0) = a.getD i (0, 0) := by
  unfold List.getD; rw [List.getElem?_append_left h]
theorem getD_mem {l : KV} {i : Nat} (h : i < l.length) : l.getD i (0, 0) ∈ l := by
  unfold List.getD; rw [List.getElem?_eq_getElem h]; exact List.getElem_mem h

theorem has_split (kv : KV) (k : Int) : (∀ x ∈ kv, x.1 ≠ k) ∨ ∃ a v b, kv = a ++ (k, v) :: b ∧ ∀ x ∈ a, x.1 ≠ k := by
  induction kv with
  | nil => exact .inl fun x hx => by cases hx
  | cons y r ih =>
    by_cases h : y.1 = k
    · exact .inr ⟨[], y.2, r, by rw [← h]; rfl, fun x hx => by cases hx⟩
    · rcases ih with ih | ⟨a, v, b, rfl, ha⟩
      · exact .inl fun x hx => by rcases List.mem_cons.1 hx with rfl | hx; exact h; exact ih x hx
      · exact .inr ⟨y :: a, v, b, rfl, fun x hx => by rcases List.mem_cons.1 hx with rfl | hx; exact h; exact ha x hx⟩

theorem ref_find_none {w : World} {S : Nat → Prop} {r : Nat} {room : Int} {kv : KV} {k : Int} (h : RefIs w S r room kv) (hlen : Hid (kv.length ≤ 100000)) (hk : ∀ x ∈ kv, x.1 ≠ k) :
    Calls Try.prog 46 #[pt r, .int .i64 k] w fun e w' => e = .returned (.int .i64 (-1)) ∧ w = w' := by
  refine (ref_find k h hlen).mono ?_
  rintro e w' ⟨⟨j, hj, hjk, -, -⟩ | ⟨-, rfl⟩, rfl⟩
  · refine absurd hjk (hk _ ?_)
    exact getD_mem hj
  · exact ⟨rfl, rfl⟩

theorem ref_find_some {w : World} {S : Nat → Prop} {r : Nat} {room : Int} {a b : KV} {k v : Int} (h : RefIs w S r room (a ++ (k, v) :: b)) (hlen : Hid ((a ++ (k, v) :: b).length ≤ 100000)) (hk : ∀ x ∈ a, x.1 ≠ k) :
    Calls Try.prog 46 #[pt r, .int .i64 k] w fun e w' => e = .returned (.int .i64 a.length) ∧ w = w' := by
  refine (ref_find k h hlen).mono ?_
  rintro e w' ⟨⟨j, hj, hjk, hne, rfl⟩ | ⟨hne, -⟩, rfl⟩
  · refine ⟨?_, rfl⟩
    rcases Nat.lt_trichotomy j a.length with q | q | q
    · rw [getD_left q] at hjk
      refine absurd hjk (hk _ ?_)
      exact getD_mem q
    · rw [q]
    · have := hne a.length q
      rw [getD_mid] at this
      exact absurd rfl this
  · have := hne a.length (by simp)
    rw [getD_mid] at this
    exact absurd rfl this

end Go.Proofs.Ytbhafcmdmpebiaa
