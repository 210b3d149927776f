/- The contracts of the cache of ints by ints over the plain list of keys and values. -/
import Derived.Test.YtbhafcmdmpebiaaKeys
namespace Go.Proofs.Ytbhafcmdmpebiaa
open Go.RowKit Go.Mine

abbrev KV := List (Int × Int)
def has (kv : KV) (k : Int) : Bool := kv.any fun x => decide (x.1 = k)
def without (kv : KV) (k : Int) : KV := kv.filter fun x => decide (x.1 ≠ k)
def putKv (room : Int) (kv : KV) (k v : Int) : KV :=
  if has kv k then without kv k ++ [(k, v)] else if ((kv.length + 1 : Nat) : Int) ≤ room then kv ++ [(k, v)] else (kv ++ [(k, v)]).tail
def headRet : KV → Int × Int × Bool
  | [] => (0, 0, false)
  | x :: _ => (x.1, x.2, true)
def putRet (room : Int) (kv : KV) (k v : Int) : Int × Int × Bool :=
  if has kv k then (0, 0, false) else if ((kv.length + 1 : Nat) : Int) ≤ room then (0, 0, false) else headRet (kv ++ [(k, v)])
def findKv (kv : KV) (k : Int) : Option (Int × Int) := kv.find? fun x => decide (x.1 = k)
def getKv (kv : KV) (k : Int) : KV := match findKv kv k with
  | some x => without kv k ++ [x]
  | none => kv
def valOf (o : Option (Int × Int)) : Int := (o.map (·.2)).getD 0
def dropKv (kv : KV) (k : Int) : KV := without kv k

theorem kvs_app (l1 l2 : List Nd) : kvs (l1 ++ l2) = kvs l1 ++ kvs l2 := List.map_append
theorem kvs_cons (n : Nd) (l : List Nd) : kvs (n :: l) = (n.k, n.v) :: kvs l := rfl
theorem kvs_nil : kvs [] = [] := rfl
theorem kvs_length (l : List Nd) : (kvs l).length = l.length := List.length_map _
theorem kvs_keys (l : List Nd) : (kvs l).map (·.1) = l.map (·.k) := by simp [kvs]

theorem has_none {l : List Nd} {k : Int} (h : ∀ n ∈ l, n.k ≠ k) : has (kvs l) k = false := by
  simp only [has, kvs, List.any_map, List.any_eq_false]
  intro n hn; simpa using h n hn
theorem find_kv_none {l : List Nd} {k : Int} (h : ∀ n ∈ l, n.k ≠ k) : findKv (kvs l) k = none := by
  simp only [findKv, kvs, List.find?_map, Option.map_eq_none_iff, List.find?_eq_none]
  intro n hn; simpa using h n hn
theorem without_none {l : List Nd} {k : Int} (h : ∀ n ∈ l, n.k ≠ k) : without (kvs l) k = kvs l := by
  simp only [without, List.filter_eq_self]
  intro x hx
  obtain ⟨n, hn, rfl⟩ := List.mem_map.1 hx
  simpa using h n hn
theorem nodup_split {l1 l2 : List Nd} {n : Nd} (h : ((l1 ++ n :: l2).map (·.k)).Nodup) : (∀ m ∈ l1, m.k ≠ n.k) ∧ (∀ m ∈ l2, m.k ≠ n.k) := by
  have hp : ((l1 ++ n :: l2).map (·.k)).Perm (n.k :: (l1 ++ l2).map (·.k)) := by
    simp only [List.map_append, List.map_cons]; exact List.perm_middle
  have := (List.nodup_cons.1 (hp.nodup_iff.1 h)).1
  exact ⟨fun m hm q => this (List.mem_map.2 ⟨m, by simp [hm], q⟩), fun m hm q => this (List.mem_map.2 ⟨m, by simp [hm], q⟩)⟩
theorem has_some {l1 l2 : List Nd} {n : Nd} : has (kvs (l1 ++ n :: l2)) n.k = true := by
  simp [has, kvs]
theorem without_some {l1 l2 : List Nd} {n : Nd} (h : ((l1 ++ n :: l2).map (·.k)).Nodup) : without (kvs (l1 ++ n :: l2)) n.k = kvs (l1 ++ l2) := by
  obtain ⟨h1, h2⟩ := nodup_split h
  have e1 := without_none h1
  have e2 := without_none h2
  unfold without at e1 e2 ⊢
  rw [kvs_app, kvs_cons, List.filter_append, List.filter_cons, e1, e2, kvs_app]
  simp
theorem find_kv_some {l1 l2 : List Nd} {n : Nd} (h : ((l1 ++ n :: l2).map (·.k)).Nodup) : findKv (kvs (l1 ++ n :: l2)) n.k = some (n.k, n.v) := by
  obtain ⟨h1, h2⟩ := nodup_split h
  have e1 := find_kv_none h1
  unfold findKv at e1 ⊢
  rw [kvs_app, List.find?_append, e1, kvs_cons]
  simp

theorem CacheIs.nodup {w : World} {S : Nat → Prop} {c : Nat} {room : Int} {kv : KV} (h : CacheIs w S c room kv) : (kv.map (·.1)).Nodup := by
  obtain ⟨l, mo, h, rfl⟩ := h
  rw [kvs_keys]; exact h.2.2.1
theorem CacheIs.turned {S T : Nat → Prop} {w w' : World} {c : Nat} {room : Int} {kv : KV} (h : CacheIs w S c room kv) (ht : Turned T w w') (hS : ∀ b, S b → ¬ T b) : CacheIs w' S c room kv := by
  obtain ⟨l, mo, h, rfl⟩ := h
  exact ⟨l, mo, h.turned ht hS, rfl⟩
theorem CacheIs.widen {S T : Nat → Prop} {w : World} {c : Nat} {room : Int} {kv : KV} (h : CacheIs w S c room kv) (hS : ∀ b, S b → T b) : CacheIs w T c room kv := by
  obtain ⟨l, mo, h, rfl⟩ := h
  exact ⟨l, mo, h.widen hS, rfl⟩

theorem CacheIs.bound {S : Nat → Prop} {w : World} {c : Nat} {room : Int} {kv : KV} (h : CacheIs w S c room kv) : CacheIs w (fun b => S b ∧ b < w.heap.size) c room kv := by
  obtain ⟨l, mo, h, rfl⟩ := h
  refine ⟨l, mo, ⟨h.1, h.2.1, h.2.2.1, fun b hb => ⟨h.2.2.2.1 b hb, h.1.lt hb⟩, fun b hb => ⟨h.2.2.2.2 b hb, ?_⟩⟩, rfl⟩
  subst hb
  exact h.2.1.2.lt

theorem new_kv (room : Int) (w : World) :
    Calls Try.prog 8 #[.int .i64 room] w fun e w' => e = .returned (pt w.heap.size) ∧ CacheIs w' (fun b => b = w.heap.size) w.heap.size (min (max room 0) 4096) [] ∧ Turned (fun _ => False) w w' :=
  (new_any room w).mono fun _ _ ⟨h1, h2, h3⟩ => ⟨h1, ⟨_, _, h2, rfl⟩, h3⟩

theorem put_kv {w : World} {S : Nat → Prop} {c : Nat} {room : Int} {kv : KV} (k v : Int) (h : CacheIs w S c room kv) :
    Calls Try.prog 9 #[pt c, .int .i64 k, .int .i64 v] w fun e w' => e = .returned (.tuple #[.int .i64 (putRet room kv k v).1, .int .i64 (putRet room kv k v).2.1, .bool (putRet room kv k v).2.2]) ∧
      CacheIs w' (More S w) c room (putKv room kv k v) ∧ Turned S w w' := by
  obtain ⟨l, mo, h, rfl⟩ := h
  rcases split_key l k with hk | ⟨l1, n, l2, rfl, rfl⟩
  · have hh := has_none hk
    by_cases hr : ((l.length + 1 : Nat) : Int) ≤ room
    · have e1 : putRet room (kvs l) k v = (0, 0, false) := by simp only [putRet, hh, kvs_length]; rw [if_neg (by simp), if_pos hr]
      have e2 : putKv room (kvs l) k v = kvs l ++ [(k, v)] := by simp only [putKv, hh, kvs_length]; rw [if_neg (by simp), if_pos hr]
      rw [e1, e2]
      cases mo with
      | none =>
        obtain rfl : l = [] := h.2.1
        exact (put_fits0 h (by simpa using hr)).mono fun _ _ ⟨h1, h2, h3⟩ => ⟨h1, ⟨_, _, h2, rfl⟩, h3⟩
      | some bm => exact (put_fits h hk hr).mono fun _ _ ⟨h1, h2, h3⟩ => ⟨h1, ⟨_, _, h2, by rw [kvs_app]; rfl⟩, h3⟩
    · have e2 : putKv room (kvs l) k v = (kvs l ++ [(k, v)]).tail := by simp only [putKv, hh, kvs_length]; rw [if_neg (by simp), if_neg hr]
      have e1 : putRet room (kvs l) k v = headRet (kvs l ++ [(k, v)]) := by simp only [putRet, hh, kvs_length]; rw [if_neg (by simp), if_neg hr]
      rw [e1, e2]
      cases mo with
      | none =>
        obtain rfl : l = [] := h.2.1
        exact (put_full0 h (by simp at hr; omega) _ _ rfl).mono fun _ _ ⟨h1, h2, h3⟩ => ⟨h1, ⟨_, _, h2, rfl⟩, h3⟩
      | some bm =>
        cases l with
        | nil => exact (put_full h hk (by omega) _ _ rfl).mono fun _ _ ⟨h1, h2, h3⟩ => ⟨h1, ⟨_, _, h2, rfl⟩, h3⟩
        | cons m t => exact (put_full h hk (by omega) m (t ++ [⟨w.heap.size, k, v⟩]) rfl).mono fun _ _ ⟨h1, h2, h3⟩ => ⟨h1, ⟨_, _, h2, by rw [kvs_app]; rfl⟩, h3⟩
  · have e1 : putRet room (kvs (l1 ++ n :: l2)) n.k v = (0, 0, false) := by simp only [putRet, has_some]; rfl
    have e2 : putKv room (kvs (l1 ++ n :: l2)) n.k v = kvs (l1 ++ l2) ++ [(n.k, v)] := by simp only [putKv, has_some, without_some h.2.2.1]; rfl
    rw [e1, e2]
    exact (put_hit h).mono fun _ _ ⟨h1, h2, h3⟩ => ⟨h1, ⟨_, _, h2.widen fun _ q => .inl q, by rw [kvs_app (l1 ++ l2)]; rfl⟩, h3⟩

theorem get_kv {w : World} {S : Nat → Prop} {c : Nat} {room : Int} {kv : KV} (k : Int) (h : CacheIs w S c room kv) :
    Calls Try.prog 10 #[pt c, .int .i64 k] w fun e w' => e = .returned (.tuple #[.int .i64 (valOf (findKv kv k)), .bool (findKv kv k).isSome]) ∧
      CacheIs w' S c room (getKv kv k) ∧ Turned S w w' := by
  obtain ⟨l, mo, h, rfl⟩ := h
  rcases split_key l k with hk | ⟨l1, n, l2, rfl, rfl⟩
  · have e1 := find_kv_none hk
    have e2 : getKv (kvs l) k = kvs l := by simp only [getKv, e1]
    rw [e1, e2]
    refine (get_none h hk).mono ?_
    rintro e w' ⟨rfl, rfl⟩
    exact ⟨rfl, ⟨_, _, h, rfl⟩, Turned.refl _ _⟩
  · have e1 := find_kv_some h.2.2.1
    have e2 : getKv (kvs (l1 ++ n :: l2)) n.k = kvs (l1 ++ l2) ++ [(n.k, n.v)] := by simp only [getKv, e1, without_some h.2.2.1]
    rw [e1, e2]
    exact (get_some h).mono fun _ _ ⟨h1, h2, h3⟩ => ⟨h1, ⟨_, _, h2, by rw [kvs_app (l1 ++ l2)]; rfl⟩, h3⟩

theorem peek_kv {w : World} {S : Nat → Prop} {c : Nat} {room : Int} {kv : KV} (k : Int) (h : CacheIs w S c room kv) :
    Calls Try.prog 11 #[pt c, .int .i64 k] w fun e w' => e = .returned (.tuple #[.int .i64 (valOf (findKv kv k)), .bool (findKv kv k).isSome]) ∧ w = w' := by
  obtain ⟨l, mo, h, rfl⟩ := h
  rcases split_key l k with hk | ⟨l1, n, l2, rfl, rfl⟩
  · rw [find_kv_none hk]
    exact peek_none h hk
  · rw [find_kv_some h.2.2.1]
    exact peek_some h

theorem drop_kv {w : World} {S : Nat → Prop} {c : Nat} {room : Int} {kv : KV} (k : Int) (h : CacheIs w S c room kv) :
    Calls Try.prog 23 #[pt c, .int .i64 k] w fun e w' => e = .returned (.bool (has kv k)) ∧ CacheIs w' S c room (dropKv kv k) ∧ Turned S w w' := by
  obtain ⟨l, mo, h, rfl⟩ := h
  rcases split_key l k with hk | ⟨l1, n, l2, rfl, rfl⟩
  · rw [has_none hk, dropKv, without_none hk]
    refine (drop_none h hk).mono ?_
    rintro e w' ⟨rfl, rfl⟩
    exact ⟨rfl, ⟨_, _, h, rfl⟩, Turned.refl _ _⟩
  · rw [has_some, dropKv, without_some h.2.2.1]
    cases mo with
    | none => exact absurd h.2.1 (by simp [MapOf])
    | some bm => exact (drop_some h).mono fun _ _ ⟨h1, h2, h3, _⟩ => ⟨h1, ⟨_, _, h2, rfl⟩, h3⟩

theorem len_kv {w : World} {S : Nat → Prop} {c : Nat} {room : Int} {kv : KV} (h : CacheIs w S c room kv) :
    Calls Try.prog 12 #[pt c] w fun e w' => e = .returned (.int .i64 kv.length) ∧ w = w' := by
  obtain ⟨l, mo, h, rfl⟩ := h
  rw [kvs_length]; exact len_is h
theorem room_kv {w : World} {S : Nat → Prop} {c : Nat} {room : Int} {kv : KV} (h : CacheIs w S c room kv) :
    Calls Try.prog 19 #[pt c] w fun e w' => e = .returned (.int .i64 room) ∧ w = w' := by
  obtain ⟨l, mo, h, rfl⟩ := h
  exact room_is h
theorem clear_kv {w : World} {S : Nat → Prop} {c : Nat} {room : Int} {kv : KV} (h : CacheIs w S c room kv) :
    Calls Try.prog 22 #[pt c] w fun e w' => e = .returned (.tuple #[]) ∧ CacheIs w' S c room [] ∧ Turned S w w' := by
  obtain ⟨l, mo, h, rfl⟩ := h
  exact (clear_is h).mono fun _ _ ⟨h1, h2, h3⟩ => ⟨h1, ⟨_, _, h2, rfl⟩, h3⟩
theorem keys_kv {w : World} {S : Nat → Prop} {c : Nat} {room : Int} {kv : KV} (h : CacheIs w S c room kv) (hlen : Hid (kv.length ≤ 100000)) :
    Calls Try.prog 24 #[pt c] w fun e w' => ∃ v, e = .returned v ∧ Sl w' (fun b => w.heap.size ≤ b) 3 1 v (kv.map fun x => .int .i64 x.1) kv.length ∧ Turned (fun _ => False) w w' := by
  obtain ⟨l, mo, h, rfl⟩ := h
  have e1 : (kvs l).map (fun x => Value.int .i64 x.1) = kvals l := by simp [kvs, kvals]
  rw [e1]
  rw [kvs_length] at hlen ⊢
  exact keys_is h hlen

end Go.Proofs.Ytbhafcmdmpebiaa
