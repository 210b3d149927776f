/- The contracts of the cache of pairs by lists over the plain list of keys and values. -/
import Derived.Test.YtbhafcmdmpebiaaPairR
import Derived.Deep.LoopGhost
namespace Go.Proofs.Ytbhafcmdmpebiaa.Pair
open Go.RowKit Go.Mine

abbrev KV := List (Pr × Sv)
def kvs (l : List Nd) : KV := l.map fun n => (n.k, n.v)
def has (kv : KV) (k : Pr) : Bool := kv.any fun x => decide (x.1 = k)
def without (kv : KV) (k : Pr) : KV := kv.filter fun x => decide (x.1 ≠ k)
def headRet : KV → Pr × Sv × Bool
  | [] => (⟨0, false⟩, ⟨none, 0, 0⟩, false)
  | x :: _ => (x.1, x.2, true)
def putKv (room : Int) (kv : KV) (k : Pr) (v : Sv) : KV :=
  if has kv k then without kv k ++ [(k, v)] else if ((kv.length + 1 : Nat) : Int) ≤ room then kv ++ [(k, v)] else (kv ++ [(k, v)]).tail
def putRet (room : Int) (kv : KV) (k : Pr) (v : Sv) : Pr × Sv × Bool :=
  if has kv k then (⟨0, false⟩, ⟨none, 0, 0⟩, false) else if ((kv.length + 1 : Nat) : Int) ≤ room then (⟨0, false⟩, ⟨none, 0, 0⟩, false) else headRet (kv ++ [(k, v)])
def findKv (kv : KV) (k : Pr) : Option (Pr × Sv) := kv.find? fun x => decide (x.1 = k)
def valOf (o : Option (Pr × Sv)) : Sv := (o.map (·.2)).getD ⟨none, 0, 0⟩

theorem kvs_app (l1 l2 : List Nd) : kvs (l1 ++ l2) = kvs l1 ++ kvs l2 := List.map_append
theorem kvs_cons (n : Nd) (l : List Nd) : kvs (n :: l) = (n.k, n.v) :: kvs l := rfl
theorem kvs_length (l : List Nd) : (kvs l).length = l.length := List.length_map _
theorem kvs_keys (l : List Nd) : (kvs l).map (·.1) = l.map (·.k) := by simp [kvs]

theorem has_none {l : List Nd} {k : Pr} (h : ∀ n ∈ l, n.k ≠ k) : has (kvs l) k = false := by
  simp only [has, kvs, List.any_map, List.any_eq_false]
  intro n hn; simpa using h n hn
theorem find_kv_none {l : List Nd} {k : Pr} (h : ∀ n ∈ l, n.k ≠ k) : findKv (kvs l) k = none := by
  simp only [findKv, kvs, List.find?_map, Option.map_eq_none_iff, List.find?_eq_none]
  intro n hn; simpa using h n hn
theorem without_none {l : List Nd} {k : Pr} (h : ∀ n ∈ l, n.k ≠ k) : without (kvs l) k = kvs l := by
  simp only [without, List.filter_eq_self]
  intro x hx
  obtain ⟨n, hn, rfl⟩ := List.mem_map.1 hx
  simpa using h n hn
theorem nodup_split {l1 l2 : List Nd} {n : Nd} (h : ((l1 ++ n :: l2).map (·.k)).Nodup) : (∀ m ∈ l1, m.k ≠ n.k) ∧ (∀ m ∈ l2, m.k ≠ n.k) := by
  have hp : ((l1 ++ n :: l2).map (·.k)).Perm (n.k :: (l1 ++ l2).map (·.k)) := by
    simp only [List.map_append, List.map_cons]; exact List.perm_middle
  have := (List.nodup_cons.1 (hp.nodup_iff.1 h)).1
  exact ⟨fun m hm q => this (List.mem_map.2 ⟨m, by simp [hm], q⟩), fun m hm q => this (List.mem_map.2 ⟨m, by simp [hm], q⟩)⟩
theorem has_some {l1 l2 : List Nd} {n : Nd} : has (kvs (l1 ++ n :: l2)) n.k = true := by
  simp [has, kvs]
theorem without_some {l1 l2 : List Nd} {n : Nd} (h : ((l1 ++ n :: l2).map (·.k)).Nodup) : without (kvs (l1 ++ n :: l2)) n.k = kvs (l1 ++ l2) := by
  obtain ⟨h1, h2⟩ := nodup_split h
  have e1 := without_none h1
  have e2 := without_none h2
  unfold without at e1 e2 ⊢
  rw [kvs_app, kvs_cons, List.filter_append, List.filter_cons, e1, e2, kvs_app]
  simp
theorem find_kv_some {l1 l2 : List Nd} {n : Nd} (h : ((l1 ++ n :: l2).map (·.k)).Nodup) : findKv (kvs (l1 ++ n :: l2)) n.k = some (n.k, n.v) := by
  obtain ⟨h1, h2⟩ := nodup_split h
  have e1 := find_kv_none h1
  unfold findKv at e1 ⊢
  rw [kvs_app, List.find?_append, e1, kvs_cons]
  simp

/-- the cache at c: in blocks of S, all of them there -/
def CacheIs (w : World) (S : Nat → Prop) (c : Nat) (room : Int) (kv : KV) : Prop := (∃ l mo, CacheAt w S c room l mo ∧ kvs l = kv) ∧ ∀ b, S b → b < w.heap.size

theorem CacheAt.bound {S : Nat → Prop} {w : World} {c : Nat} {room : Int} {l : List Nd} {mo : Option Nat} (h : CacheAt w S c room l mo) : CacheIs w (fun b => S b ∧ b < w.heap.size) c room (kvs l) := by
  refine ⟨⟨l, mo, ⟨h.1, h.2.1, h.2.2.1, fun b hb => ⟨h.2.2.2.1 b hb, h.1.lt hb⟩, fun b hb => ⟨h.2.2.2.2.1 b hb, ?_⟩, h.2.2.2.2.2⟩, rfl⟩, fun b q => q.2⟩
  subst hb
  exact h.2.1.2.lt
theorem CacheIs.nodup {w : World} {S : Nat → Prop} {c : Nat} {room : Int} {kv : KV} (h : CacheIs w S c room kv) : (kv.map (·.1)).Nodup := by
  obtain ⟨⟨l, mo, h, rfl⟩, -⟩ := h
  rw [kvs_keys]; exact h.2.2.1
theorem CacheIs.turned {S T : Nat → Prop} {w w' : World} {c : Nat} {room : Int} {kv : KV} (h : CacheIs w S c room kv) (ht : Turned T w w') (hS : ∀ b, S b → ¬ T b) : CacheIs w' S c room kv := by
  obtain ⟨⟨l, mo, h, rfl⟩, hb⟩ := h
  exact ⟨⟨l, mo, h.turned ht hS, rfl⟩, fun b q => by have := hb b q; have := ht.size; omega⟩

theorem new_kv (room : Int) (w : World) :
    Calls Try.prog 13 #[.int .i64 room] w fun e w' => e = .returned (pt w.heap.size) ∧ CacheIs w' (fun b => b = w.heap.size) w.heap.size (min (max room 0) 4096) [] ∧ Turned (fun _ => False) w w' := by
  have hx : ∀ r, r = min (max room 0) 4096 → CacheIs (w.alloc (.cells #[.int .i64 r, .map none, .pointer none, .pointer none] 76)) (fun b => b = w.heap.size) w.heap.size (min (max room 0) 4096) [] ∧ Turned (fun _ => False) w (w.alloc (.cells #[.int .i64 r, .map none, .pointer none, .pointer none] 76)) := by
    rintro r rfl
    exact ⟨⟨⟨[], none, ⟨⟨Go.Mine.heap_alloc_new _ _, trivial, by simp⟩, rfl, by simp, fun b hb => by simpa [RingSet] using hb, (fun b hb => by cases hb), by simp⟩, rfl⟩, fun b q => by subst q; simp⟩, Turned.alloc _ _ _⟩
  go_enter Try.func13, Try.ntmps13
  go_wp2
  all_goals (go_ret; refine ⟨rfl, hx _ ?_⟩; omega)

theorem put_kv {w : World} {S : Nat → Prop} {c : Nat} {room : Int} {kv : KV} (k : Pr) (v : Sv) (h : CacheIs w S c room kv) (hkr : 0 ≤ k.a ∧ k.a ≤ 15) :
    Calls Try.prog 15 #[pt c, .agg #[.int .i8 k.a, .bool k.t], sv v] w fun e w' => e = .returned (.tuple #[.agg #[.int .i8 (putRet room kv k v).1.a, .bool (putRet room kv k v).1.t], sv (putRet room kv k v).2.1, .bool (putRet room kv k v).2.2]) ∧
      CacheIs w' (fun b => More S w b ∧ b < w'.heap.size) c room (putKv room kv k v) ∧ Turned S w w' := by
  obtain ⟨⟨l, mo, h, rfl⟩, hSb⟩ := h
  have hM : ∀ b, More3 S w b → More S w b := fun b q => by rcases q with q | q; exact .inl q; exact .inr (by omega)
  rcases split_key l k with hk | ⟨l1, n, l2, rfl, rfl⟩
  · have hh := has_none hk
    by_cases hr : ((l.length + 1 : Nat) : Int) ≤ room
    · have e1 : putRet room (kvs l) k v = (⟨0, false⟩, ⟨none, 0, 0⟩, false) := by simp only [putRet, hh, kvs_length]; rw [if_neg (by simp), if_pos hr]
      have e2 : putKv room (kvs l) k v = kvs l ++ [(k, v)] := by simp only [putKv, hh, kvs_length]; rw [if_neg (by simp), if_pos hr]
      rw [e1, e2]
      cases mo with
      | none =>
        obtain rfl : l = [] := h.2.1
        refine (put_fits0 h hSb hkr (by simpa using hr)).mono ?_
        rintro e w' ⟨h1, ⟨nd, b, hn1, hn2, h2⟩, h3⟩
        have := (h2.widen hM).bound
        rw [show kvs [nd] = [(nd.k, nd.v)] from rfl, hn1, hn2] at this
        exact ⟨h1, this, h3⟩
      | some bm =>
        refine (put_fits h hSb hkr hk hr).mono ?_
        rintro e w' ⟨h1, ⟨nd, hn1, hn2, h2⟩, h3⟩
        have := (h2.widen hM).bound
        rw [kvs_app, show kvs [nd] = [(nd.k, nd.v)] from rfl, hn1, hn2] at this
        exact ⟨h1, this, h3⟩
    · have e2 : putKv room (kvs l) k v = (kvs l ++ [(k, v)]).tail := by simp only [putKv, hh, kvs_length]; rw [if_neg (by simp), if_neg hr]
      have e1 : putRet room (kvs l) k v = headRet (kvs l ++ [(k, v)]) := by simp only [putRet, hh, kvs_length]; rw [if_neg (by simp), if_neg hr]
      rw [e1, e2]
      cases mo with
      | none =>
        obtain rfl : l = [] := h.2.1
        refine (put_full0 h hSb hkr (by simp at hr ⊢; omega)).mono ?_
        rintro e w' ⟨⟨nd, e0, t, b, rfl, rfl, het, rfl, h2⟩, h3⟩
        obtain ⟨rfl, rfl⟩ := List.cons.inj het
        exact ⟨rfl, (h2.widen hM).bound, h3⟩
      | some bm =>
        refine (put_full h hSb hkr hk (by omega)).mono ?_
        rintro e w' ⟨⟨nd, e0, t, rfl, rfl, het, rfl, h2⟩, h3⟩
        have hl : kvs l ++ [(nd.k, nd.v)] = (e0.k, e0.v) :: kvs t := by
          have := congrArg kvs het
          rw [kvs_app] at this; exact this
        rw [hl]
        exact ⟨rfl, (h2.widen hM).bound, h3⟩
  · have e1 : putRet room (kvs (l1 ++ n :: l2)) n.k v = (⟨0, false⟩, ⟨none, 0, 0⟩, false) := by simp only [putRet, has_some]; rfl
    have e2 : putKv room (kvs (l1 ++ n :: l2)) n.k v = kvs (l1 ++ l2) ++ [(n.k, v)] := by simp only [putKv, has_some, without_some h.2.2.1]; rfl
    rw [e1, e2]
    exact (put_hit h hSb).mono fun _ _ ⟨h1, h2, h3⟩ => ⟨h1, by have := (h2.widen (T := More S w) fun _ q => .inl q).bound; rw [kvs_app (l1 ++ l2)] at this; exact this, h3⟩

theorem peek_kv {w : World} {S : Nat → Prop} {c : Nat} {room : Int} {kv : KV} (k : Pr) (h : CacheIs w S c room kv) (hkr : 0 ≤ k.a ∧ k.a ≤ 15) :
    Calls Try.prog 14 #[pt c, .agg #[.int .i8 k.a, .bool k.t]] w fun e w' => e = .returned (.tuple #[sv (valOf (findKv kv k)), .bool (findKv kv k).isSome]) ∧ Turned (fun _ => False) w w' := by
  obtain ⟨⟨l, mo, h, rfl⟩, -⟩ := h
  rcases split_key l k with hk | ⟨l1, n, l2, rfl, rfl⟩
  · rw [find_kv_none hk]
    exact peek_none h hkr hk
  · rw [find_kv_some h.2.2.1]
    exact peek_some h

theorem len_kv {w : World} {S : Nat → Prop} {c : Nat} {room : Int} {kv : KV} (h : CacheIs w S c room kv) :
    Calls Try.prog 17 #[pt c] w fun e w' => e = .returned (.int .i64 kv.length) ∧ w = w' := by
  obtain ⟨⟨l, mo, h, rfl⟩, -⟩ := h
  rw [kvs_length]
  have c1 := cell_of h.1.1 1 _ rfl
  cases mo with
  | none =>
    obtain rfl : l = [] := h.2.1
    have hl : ∀ ty, (Builtin.len_ #[73] ty #[.map none]).run Try.prog w = .ok (.int .i64 0) w := fun ty => Maps.len_nil Try.underlying73 ty
    clear h
    go_enter Try.func17, Try.ntmps17
    go_wp2
    go_ret
    exact ⟨rfl, rfl⟩
  | some bm =>
    have hl := fun ty => h.2.1.2.len (P := Try.prog) Try.underlying73 ty
    clear h
    obtain ⟨L, hL⟩ : ∃ L, L = l.length := ⟨_, rfl⟩
    rw [← hL] at hl ⊢
    clear hL
    go_enter Try.func17, Try.ntmps17
    go_wp2
    go_ret
    exact ⟨rfl, rfl⟩

/-- keys as cells -/
def kcells (ks : List Pr) : List Value := ks.flatMap fun k => [.int .i8 k.a, .bool k.t]
theorem kcells_app (a b : List Pr) : kcells (a ++ b) = kcells a ++ kcells b := List.flatMap_append ..
theorem kcells_length : ∀ ks : List Pr, (kcells ks).length = ks.length * 2
  | [] => rfl
  | k :: r => by simp only [kcells, List.flatMap_cons, List.length_append] at *; have := kcells_length r; simp only [kcells] at this; rw [this]; simp; omega
theorem info38 : (Try.prog.info? 38).map (fun i => (i.zero, i.size, i.bytes)) = some (some (.agg #[.int .i8 0, .bool false]), 2, 2) := by kernel_rfl
theorem src_key (k : Pr) (w : World) : Src Try.prog 2 39 (.slice (some ⟨w.heap.size, 0, none⟩) 1 1) 1 (kcells [k]) (w.alloc (kb k)) := by
  refine Src.ofSlice _ Try.underlying39 _ 1 1 _ rfl (fun j u hu => ?_) (by intro u hu; simp [kcells] at hu; rcases hu with rfl | rfl <;> rfl)
  rw [Addr.add_lit]
  have : (w.alloc (kb k)).heap[w.heap.size]? = _ := Go.Mine.heap_alloc_new w _
  simp only [World.cell?, this, Nat.zero_add]
  simpa [kcells] using hu

def nkeys (l : List Nd) : List Pr := l.map (·.k)

set_option maxHeartbeats 1000000 in
theorem keys_is {c : Nat} {room : Int} {l : List Nd} {mo : Option Nat} {S : Nat → Prop} {w : World} (h : CacheAt w S c room l mo) (hlen : Hid (l.length ≤ 100000)) :
    Calls Try.prog 16 #[pt c] w fun e w' => ∃ v, e = .returned v ∧ Sl w' (fun b => w.heap.size ≤ b) 38 2 v (kcells (nkeys l)) l.length ∧ Turned (fun _ => False) w w' := by
  have hr := h.1
  have c2 := cell_of hr.1 2 _ rfl
  have hsz : ∀ b, RingSet c l b → b < w.heap.size := fun b hb => hr.lt hb
  clear h
  go_enter Try.func16, Try.ntmps16
  go_wp2
  go_loopg [3, 4] l.length (fun k v n wr => ∃ l1 l2, l = l1 ++ l2 ∧ k = l2.length ∧ n = pto (hd l2 none) ∧ Sl wr (fun b => w.heap.size ≤ b) 38 2 v (kcells (nkeys l1)) l1.length ∧ Turned (fun _ => False) w wr)
  case atStart => exact ⟨[], l, rfl, rfl, rfl, Sl.nil _ _ _ _, Turned.refl _ _⟩
  case round =>
    obtain ⟨l1, l2, rfl, hgk, hnv, hsl, ht⟩ := hrel
    cases l2 with
    | nil =>
      have hnv' : u4 = .pointer none := hnv
      subst hnv'
      have A : Aside (gk = 0 ∧ Ring w c (Value.int IntKind.i64 room) (Value.map mo) (l1 ++ []) ∧ Sl wr (fun b => w.heap.size ≤ b) 38 2 u3 (kcells (nkeys l1)) l1.length ∧ Turned (fun _ => False) w wr) := ⟨hgk, hr, hsl, ht⟩
      clear hgk hnv hr hsl ht
      go_wp2
      go_ret
      obtain ⟨-, -, hsl, ht⟩ := A.out
      exact ⟨_, rfl, by simpa using hsl, ht⟩
    | cons n1 l2 =>
      have hnv' : u4 = pt n1.b := hnv
      subst hnv'
      clear hnv
      have hn := (hr.turned ht fun _ _ q => q).2.1
      rw [seg_app] at hn
      have hn := hn.2.1
      have n0 := cell_of hn 0 _ rfl
      have n1' := cell_of hn 1 _ rfl
      have n4 := cell_of hn 4 _ rfl
      have hlt := lt_of_block hn
      have hsl1 : Sl (wr.alloc (kb n1.k)) (fun b => w.heap.size ≤ b) 38 2 _ _ _ := hsl.turned (Turned.alloc (fun _ => False) wr _) fun _ _ q => q
      have A : Aside (Turned (fun _ => False) w wr ∧ NdIs wr n1 (pto (lst l1 none)) (pto (hd l2 none)) ∧ Hid ((l1 ++ n1 :: l2).length ≤ 100000) ∧ ∀ b, RingSet c (l1 ++ n1 :: l2) b → b < w.heap.size) := ⟨ht, hn, hlen, hsz⟩
      clear ht hn hr hlen hsz
      go_wp2_with (at_builtin; go_must (refine wpList_append rfl _ _ 39 39 rfl hsl1 Try.underlying39 info38 rfl (by decide) rfl (.slice (some ⟨wr.heap.size, 0, none⟩) 1 1) rfl (src_key n1.k wr) ?c1 ?c2 ?_))
      case c1 => have := A.out.2.2.1.out; simp at this; unfold maxLen; omega
      case c2 => have := A.out.2.2.1.out; simp at this; omega
      intro v' w1 hsl2 ht2
      obtain ⟨ht, hn, hlen, hsz⟩ := A.out
      have hT : Turned (fun _ => False) w w1 := (ht.trans (Turned.alloc (fun _ => False) wr _) fun _ _ q => q).comp ht2 fun i hi q => by rcases q with q | q; exact q; exact absurd q (by omega)
      have hn1 : NdIs w1 n1 _ _ := (hn.turned (Turned.alloc (fun _ => False) wr (kb n1.k)) fun q => q).turned ht2 fun q => absurd q (by have := hsz n1.b (by simp [RingSet]); omega)
      have m4 := cell_of hn1 4 _ rfl
      have hsl3 : Sl w1 (fun b => w.heap.size ≤ b) 38 2 v' (kcells (nkeys (l1 ++ [n1]))) (l1 ++ [n1]).length := by
        refine Sl.widen (by simpa [nkeys, kcells] using hsl2) fun b q => ?_
        rcases q with q | q
        · exact q
        · have q' : (wr.alloc (kb n1.k)).heap.size ≤ b := q
          have := (ht.trans (Turned.alloc (fun _ => False) wr (kb n1.k)) fun _ _ q => q).size; omega
      have B : Aside (gk = (n1 :: l2).length ∧ Turned (fun _ => False) w w1 ∧ Sl w1 (fun b => w.heap.size ≤ b) 38 2 v' (kcells (nkeys (l1 ++ [n1]))) (l1 ++ [n1]).length) := ⟨hgk, hT, hsl3⟩
      clear hsl2 ht2 ht hn hlen hsz hT hn1 hsl3 hsl1 n0 n1' n4 A hgk hsl
      go_wp2
      obtain ⟨hgk, hT, hsl3⟩ := B.out
      go_roundg l2.length
      case measure => rw [hgk]; simp
      case rel => exact ⟨l1 ++ [n1], l2, by simp, rfl, rfl, hsl3, hT⟩

theorem keys_kv {w : World} {S : Nat → Prop} {c : Nat} {room : Int} {kv : KV} (h : CacheIs w S c room kv) (hlen : Hid (kv.length ≤ 100000)) :
    Calls Try.prog 16 #[pt c] w fun e w' => ∃ v, e = .returned v ∧ Sl w' (fun b => w.heap.size ≤ b) 38 2 v (kcells (kv.map (·.1))) kv.length ∧ Turned (fun _ => False) w w' := by
  obtain ⟨⟨l, mo, h, rfl⟩, -⟩ := h
  rw [kvs_keys]
  rw [kvs_length] at hlen ⊢
  exact keys_is h hlen

end Go.Proofs.Ytbhafcmdmpebiaa.Pair
