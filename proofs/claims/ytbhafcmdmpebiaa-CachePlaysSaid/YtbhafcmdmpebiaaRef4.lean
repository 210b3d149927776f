/- The reference's methods over the plain list. -/
import Derived.Test.YtbhafcmdmpebiaaRef3
namespace Go.Proofs.Ytbhafcmdmpebiaa
open Go.RowKit Go.Mine

theorem nodup_kv {a b : KV} {x : Int × Int} (h : ((a ++ x :: b).map (·.1)).Nodup) : (∀ y ∈ a, y.1 ≠ x.1) ∧ (∀ y ∈ b, y.1 ≠ x.1) := by
  have hp : ((a ++ x :: b).map (·.1)).Perm (x.1 :: (a ++ b).map (·.1)) := by
    simp only [List.map_append, List.map_cons]; exact List.perm_middle
  have := (List.nodup_cons.1 (hp.nodup_iff.1 h)).1
  exact ⟨fun m hm q => this (List.mem_map.2 ⟨m, by simp [hm], q⟩), fun m hm q => this (List.mem_map.2 ⟨m, by simp [hm], q⟩)⟩
theorem no_key {kv : KV} {k : Int} (h : ∀ x ∈ kv, x.1 ≠ k) : k ∉ kv.map (·.1) := fun q => by
  obtain ⟨x, hx, e⟩ := List.mem_map.1 q; exact h x hx e
theorem without_kv {a b : KV} {k v : Int} (h : ((a ++ (k, v) :: b).map (·.1)).Nodup) : without (a ++ (k, v) :: b) k = a ++ b := by
  obtain ⟨h1, h2⟩ := nodup_kv h
  rw [without_app, without_id (no_key h1)]
  have e2 := without_id (no_key h2)
  unfold without at e2 ⊢
  rw [List.filter_cons_of_neg (by simp), e2]
theorem find_kv {a b : KV} {k v : Int} (h : ∀ x ∈ a, x.1 ≠ k) : findKv (a ++ (k, v) :: b) k = some (k, v) := by
  rw [findKv, List.find?_append, List.find?_eq_none.2 (fun x hx => by simpa using h x hx)]; simp
theorem find_kv0 {kv : KV} {k : Int} (h : ∀ x ∈ kv, x.1 ≠ k) : findKv kv k = none := List.find?_eq_none.2 fun x hx => by simpa using h x hx
theorem has_kv {a b : KV} {k v : Int} : has (a ++ (k, v) :: b) k = true := by simp [has]
theorem has_kv0 {kv : KV} {k : Int} (h : ∀ x ∈ kv, x.1 ≠ k) : has kv k = false := by
  cases hh : has kv k with
  | false => rfl
  | true => exact absurd ((has_iff _ _).1 hh) (no_key h)

theorem ref_drop {w : World} {S : Nat → Prop} {r : Nat} {room : Int} {kv : KV} (k : Int) (h : RefIs w S r room kv) (hlen : Hid (kv.length ≤ 100000)) (hnd : (kv.map (·.1)).Nodup) :
    Calls Try.prog 40 #[pt r, .int .i64 k] w fun e w' => e = .returned (.bool (has kv k)) ∧ RefIs w' (More S w) r room (dropKv kv k) ∧ Turned S w w' := by
  rcases has_split kv k with hk | ⟨a, v, b, rfl, hk⟩
  · rw [has_kv0 hk, dropKv, without_id (no_key hk)]
    refine (ref_drop_none h hlen hk).mono ?_
    rintro e w' ⟨rfl, rfl⟩
    exact ⟨rfl, h.widen fun _ q => .inl q, Turned.refl _ _⟩
  · rw [has_kv, dropKv, without_kv hnd]
    exact ref_drop_some h hlen hk

theorem ref_put {w : World} {S : Nat → Prop} {r : Nat} {room : Int} {kv : KV} (k v : Int) (h : RefIs w S r room kv) (hlen : Hid (kv.length ≤ 100000)) (hnd : (kv.map (·.1)).Nodup) (hroom : (kv.length : Int) ≤ room) :
    Calls Try.prog 37 #[pt r, .int .i64 k, .int .i64 v] w fun e w' => e = .returned (.tuple #[.int .i64 (putRet room kv k v).1, .int .i64 (putRet room kv k v).2.1, .bool (putRet room kv k v).2.2]) ∧
      RefIs w' (More S w) r room (putKv room kv k v) ∧ Turned S w w' := by
  have hrw : r < w.heap.size := by obtain ⟨_, h1, _⟩ := h; exact lt_of_block h1
  rcases has_split kv k with hk | ⟨a, v0, b, rfl, hk⟩
  · have hd : Calls Try.prog 40 #[pt r, .int .i64 k] w fun e w' => (∃ b, e = .returned (.bool b)) ∧ RefIs w' S r room kv ∧ Turned S w w' := by
      refine (ref_drop_none h hlen hk).mono ?_
      rintro e w' ⟨rfl, rfl⟩
      exact ⟨⟨_, rfl⟩, h, Turned.refl _ _⟩
    have hh := has_kv0 hk
    by_cases hr : ((kv.length + 1 : Nat) : Int) ≤ room
    · have e1 : putRet room kv k v = (0, 0, false) := by rw [putRet, hh, if_neg (by simp), if_pos hr]
      have e2 : putKv room kv k v = kv ++ [(k, v)] := by rw [putKv, hh, if_neg (by simp), if_pos hr]
      rw [e1, e2]
      exact ref_put_fits hd (fun _ q => .inl q) hlen hrw hr
    · have e1 : putRet room kv k v = headRet (kv ++ [(k, v)]) := by rw [putRet, hh, if_neg (by simp), if_neg hr]
      have e2 : putKv room kv k v = (kv ++ [(k, v)]).tail := by rw [putKv, hh, if_neg (by simp), if_neg hr]
      rw [e1, e2]
      cases kv with
      | nil => exact ref_put_full hd (fun _ q => .inl q) hlen hrw (by omega) _ _ rfl
      | cons x t => exact ref_put_full hd (fun _ q => .inl q) hlen hrw (by omega) x (t ++ [(k, v)]) rfl
  · have e1 : putRet room (a ++ (k, v0) :: b) k v = (0, 0, false) := by rw [putRet, has_kv, if_pos rfl]
    have e2 : putKv room (a ++ (k, v0) :: b) k v = (a ++ b) ++ [(k, v)] := by rw [putKv, has_kv, if_pos rfl, without_kv hnd]
    rw [e1, e2]
    have hl : (a ++ (k, v0) :: b).length = (a ++ b).length + 1 := by simp; omega
    refine ref_put_fits (kv1 := a ++ b) ((ref_drop_some h hlen hk).mono fun _ _ ⟨q1, q2, q3⟩ => ⟨⟨_, q1⟩, q2, q3⟩) (fun _ q => q) ?_ hrw ?_
    · have := hlen.out; rw [hl] at this; exact (by omega : (a ++ b).length ≤ 100000)
    · rw [← hl]; exact hroom

theorem ref_cell1 {w : World} {S : Nat → Prop} {r : Nat} {room : Int} {a b : KV} {k v : Int} (h : RefIs w S r room (a ++ (k, v) :: b)) :
    ∃ g off cap, Blk w r #[.int .i64 room, .slice (some ⟨g, off, none⟩) (a ++ (k, v) :: b).length cap] 51 ∧ w.cell? ⟨g, off + a.length * 2 + 1, none⟩ = some (.int .i64 v) := by
  obtain ⟨L, h1, -, h3⟩ := h
  obtain ⟨g, off, cap, rfl, -, -, -, hc, -, -⟩ := h3.opens (by simp; omega)
  refine ⟨g, off, cap, h1, ?_⟩
  rw [Nat.add_assoc, hc (a.length * 2 + 1) (by simp; omega), flat_get1 _ _ (by simp), getD_mid]

set_option maxHeartbeats 1000000 in
theorem ref_peek {w : World} {S : Nat → Prop} {r : Nat} {room : Int} {kv : KV} (k : Int) (h : RefIs w S r room kv) (hlen : Hid (kv.length ≤ 100000)) :
    Calls Try.prog 39 #[pt r, .int .i64 k] w fun e w' => e = .returned (.tuple #[.int .i64 (valOf (findKv kv k)), .bool (findKv kv k).isSome]) ∧ w = w' := by
  rcases has_split kv k with hk | ⟨a, v, b, rfl, hk⟩
  · rw [find_kv0 hk, show valOf none = 0 from rfl, show (none : Option (Int × Int)).isSome = false from rfl]
    have hf := ref_find_none h hlen hk
    clear h hlen hk
    go_enter Try.func39, Try.ntmps39
    go_wp2_with (go_at_call 46; (with_reducible refine hf.mono ?_); rintro e w' ⟨rfl, rfl⟩)
    go_ret2
    exact ⟨rfl, rfl⟩
  · rw [find_kv hk, show valOf (some (k, v)) = v from rfl, show (some (k, v) : Option (Int × Int)).isSome = true from rfl]
    have hf := ref_find_some h hlen hk
    obtain ⟨g, off, cap, hb, hc⟩ := ref_cell1 h
    have r1 := cell_of hb 1 _ rfl
    obtain ⟨n, hn⟩ : ∃ n, n = a.length := ⟨_, rfl⟩
    obtain ⟨m, hm⟩ : ∃ m, m = (a ++ (k, v) :: b).length := ⟨_, rfl⟩
    have hnm : n < m := by rw [hn, hm]; simp
    have hm5 : m ≤ 100000 := by rw [hm]; exact hlen
    rw [← hn] at hf hc
    rw [← hm] at r1
    clear h hlen hk hb hn hm
    go_enter Try.func39, Try.ntmps39
    go_wp2_with (go_at_call 46; (with_reducible refine hf.mono ?_); rintro e w' ⟨rfl, rfl⟩)
    go_ret2
    exact ⟨rfl, rfl⟩

set_option maxHeartbeats 1000000 in
theorem ref_get {w : World} {S : Nat → Prop} {r : Nat} {room : Int} {kv : KV} (k : Int) (h : RefIs w S r room kv) (hlen : Hid (kv.length ≤ 100000)) (hnd : (kv.map (·.1)).Nodup) (hroom : (kv.length : Int) ≤ room) :
    Calls Try.prog 38 #[pt r, .int .i64 k] w fun e w' => e = .returned (.tuple #[.int .i64 (valOf (findKv kv k)), .bool (findKv kv k).isSome]) ∧ RefIs w' (More S w) r room (getKv kv k) ∧ Turned S w w' := by
  rcases has_split kv k with hk | ⟨a, v, b, rfl, hk⟩
  · have e2 : getKv kv k = kv := by simp only [getKv, find_kv0 hk]
    rw [find_kv0 hk, show valOf none = 0 from rfl, show (none : Option (Int × Int)).isSome = false from rfl, e2]
    have hf := ref_find_none h hlen hk
    have H : Hid (RefIs w (More S w) r room kv) := h.widen fun _ q => .inl q
    clear h hlen hk hnd hroom
    go_enter Try.func38, Try.ntmps38
    go_wp2_with (go_at_call 46; (with_reducible refine hf.mono ?_); rintro e w' ⟨rfl, rfl⟩)
    go_ret2
    exact ⟨rfl, H.out, Turned.refl _ _⟩
  · have e2 : getKv (a ++ (k, v) :: b) k = putKv room (a ++ (k, v) :: b) k v := by
      simp only [getKv, find_kv hk, putKv, has_kv]; rfl
    rw [find_kv hk, show valOf (some (k, v)) = v from rfl, show (some (k, v) : Option (Int × Int)).isSome = true from rfl, e2]
    have hp := ref_put k v h hlen hnd hroom
    have hf := ref_find_some h hlen hk
    obtain ⟨g, off, cap, hb, hc⟩ := ref_cell1 h
    have r1 := cell_of hb 1 _ rfl
    obtain ⟨n, hn⟩ : ∃ n, n = a.length := ⟨_, rfl⟩
    obtain ⟨m, hm⟩ : ∃ m, m = (a ++ (k, v) :: b).length := ⟨_, rfl⟩
    have hnm : n < m := by rw [hn, hm]; simp
    have hm5 : m ≤ 100000 := by rw [hm]; exact hlen
    rw [← hn] at hf hc
    rw [← hm] at r1
    clear h hlen hk hb hn hm hnd hroom e2
    go_enter Try.func38, Try.ntmps38
    go_wp2_with (go_at_call 46; (with_reducible refine hf.mono ?_); rintro e w' ⟨rfl, rfl⟩)
    refine hp.mono ?_
    rintro e w1 ⟨rfl, h1, h2⟩
    have H1 : Hid (RefIs w1 (More S w) r room _) := h1
    have H2 : Hid (Turned S w w1) := h2
    clear h1 h2 hp
    go_wp2
    go_ret2
    exact ⟨rfl, H1.out, H2.out⟩

theorem ref_new (room : Int) (w : World) :
    Calls Try.prog 18 #[.int .i64 room] w fun e w' => e = .returned (pt w.heap.size) ∧ RefIs w' (fun b => b = w.heap.size) w.heap.size (min (max room 0) 4096) [] ∧ Turned (fun _ => False) w w' := by
  have hx : ∀ r, r = min (max room 0) 4096 → RefIs (w.alloc (.cells #[.int .i64 r, .slice none 0 0] 51)) (fun b => b = w.heap.size) w.heap.size (min (max room 0) 4096) [] ∧ Turned (fun _ => False) w (w.alloc (.cells #[.int .i64 r, .slice none 0 0] 51)) := by
    rintro r rfl
    exact ⟨⟨_, Go.Mine.heap_alloc_new _ _, rfl, Sl.nil _ _ _ _⟩, Turned.alloc _ _ _⟩
  go_enter Try.func18, Try.ntmps18
  go_wp2
  all_goals (go_ret; refine ⟨rfl, hx _ ?_⟩; omega)

end Go.Proofs.Ytbhafcmdmpebiaa
