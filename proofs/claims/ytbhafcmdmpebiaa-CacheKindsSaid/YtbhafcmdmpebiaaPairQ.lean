/- Put of a new key on the cache of pairs by lists. -/
import Derived.Test.YtbhafcmdmpebiaaPairP
namespace Go.Proofs.Ytbhafcmdmpebiaa.Pair
open Go.RowKit Go.Mine

def More3 (S : Nat → Prop) (w : World) (b : Nat) : Prop := S b ∨ w.heap.size + 3 ≤ b

open Classical in
/-- what stands behind the hanging of a new node -/
theorem put_hang {c bm N : Nat} {room : Int} {l : List Nd} {S : Nat → Prop} {nd : Nd} {w w1 w2 w3 : World} (h : CacheAt w S c room l (some bm)) (hk : ∀ n ∈ l, n.k ≠ nd.k) (hkr : 0 ≤ nd.k.a ∧ nd.k.a ≤ 15)
    (hnd : nd.b = w.heap.size) (hN : N ≤ w.heap.size) (hT1 : Turned (fun _ => False) w w1) (hn1 : NdIs w1 nd (.pointer none) (.pointer none)) {sz : Nat} (hm2 : MapIs KPair w2 bm (fun y => if y = kv nd.k then some (pt nd.b) else mpf l y) sz) (hsz : sz = if (mpf l (kv nd.k)).isSome then l.length else l.length + 1) (ht2 : Turned (· = bm) w1 w2) :
    Ring w2 c (.int .i64 room) (.map (some bm)) l ∧ NdIs w2 nd (.pointer none) (.pointer none) ∧ ¬ RingSet c l nd.b ∧
    (Ring w3 c (.int .i64 room) (.map (some bm)) (l ++ [nd]) → Turned (RingSet c (l ++ [nd])) w2 w3 →
      CacheAt w3 (fun b => S b ∨ N ≤ b) c room (l ++ [nd]) (some bm) ∧ Turned (fun b => S b) w w3 ∧ MapIs KPair w3 bm (mpf (l ++ [nd])) (l ++ [nd]).length) := by
  have hsub : ∀ b, RingSet c l b → ¬ (b = bm) := fun b hb q => h.2.1.1 (q ▸ hb)
  have hr1 := h.1.turned hT1 fun _ _ q => q
  have hbm := h.2.1.2.lt
  refine ⟨hr1.turned ht2 hsub, hn1.turned ht2 (by omega), fun q => by have := h.1.lt q; omega, fun hr3 ht3 => ?_⟩
  have hset : ∀ b, RingSet c (l ++ [nd]) b → RingSet c l b ∨ b = nd.b := by
    intro b hb
    simp only [RingSet, List.map_append, List.map_cons, List.map_nil, List.mem_append, List.mem_singleton] at hb ⊢
    rcases hb with hb | hb | hb <;> simp [hb]
  have hmap : MapIs KPair w3 bm (mpf (l ++ [nd])) (l ++ [nd]).length := by
    have hb3 : w3.heap[bm]? = w2.heap[bm]? := by
      refine ht3.block bm hm2.lt fun q => ?_
      rcases hset bm q with q | q
      · exact h.2.1.1 q
      · omega
    have := hm2.congr hb3 (mpf_put hk)
    rw [hsz, mpf_none hk] at this
    simpa using this
  refine ⟨⟨hr3, ⟨fun q => ?_, hmap⟩, ?_, fun b hb => ?_, fun b hb => .inl (h.2.2.2.2.1 b hb), fun m hm => ?_⟩, ?_, hmap⟩
  · rcases hset bm q with q | q
    · exact h.2.1.1 q
    · omega
  · rw [List.map_append, List.nodup_append]
    refine ⟨h.2.2.1, by simp, ?_⟩
    intro a ha b hb
    obtain ⟨n, hn, rfl⟩ := List.mem_map.1 ha
    simp at hb; subst hb
    exact hk n hn
  · rcases hset b hb with q | q
    · exact .inl (h.2.2.2.1 b q)
    · exact .inr (by omega)
  · rcases List.mem_append.1 hm with q | q
    · exact h.2.2.2.2.2 m q
    · rw [List.mem_singleton] at q; subst q; exact hkr
  · refine Turned.comp (S := S) (T := S) (Turned.comp (T := S) (hT1.mono (S' := S) fun _ _ q => q.elim) ht2 fun i hi q => ?_) ht3 fun i hi q => ?_
    · rcases q with q | q
      · exact q
      · exact h.2.2.2.2.1 i (by rw [q])
    · rcases q with q | q
      · exact q
      · rcases hset i q with q | q
        · exact h.2.2.2.1 i q
        · omega

/-- a new node's block -/
abbrev nb (k : Pr) (v : Sv) : Obj := .cells #[.int .i8 k.a, .bool k.t, sv v, .pointer none, .pointer none] 79

set_option maxHeartbeats 1000000 in
theorem put_fits {c bm : Nat} {room : Int} {l : List Nd} {S : Nat → Prop} {k : Pr} {v : Sv} {w : World} (h : CacheAt w S c room l (some bm)) (hSb : Hid (∀ b, S b → b < w.heap.size)) (hkr : 0 ≤ k.a ∧ k.a ≤ 15) (hk : ∀ n ∈ l, n.k ≠ k) (hroom : ((l.length + 1 : Nat) : Int) ≤ room) :
    Calls Try.prog 15 #[pt c, .agg #[.int .i8 k.a, .bool k.t], sv v] w fun e w' => e = .returned (.tuple #[.agg #[.int .i8 0, .bool false], .slice none 0 0, .bool false]) ∧
      (∃ nd : Nd, nd.k = k ∧ nd.v = v ∧ CacheAt w' (More3 S w) c room (l ++ [nd]) (some bm)) ∧ Turned S w w' := by
  have q73 : ∀ (w : World) (r : Option Nat), (binOp .eql 73 (.map r) (.map none)).run Try.prog w = .ok (.bool r.isNone) w := fun w r => run_eql_map_nil w _ _ _ r Try.underlying73
  have h3 := h.keep (t3 _ w k)
  have hf := find_none h3 hkr hk
  have H3 : Hid (CacheAt (W3 w k) S c room l (some bm)) := h3
  have HK : Hid ((∀ n ∈ l, n.k ≠ k) ∧ (0 ≤ k.a ∧ k.a ≤ 15)) := ⟨hk, hkr⟩
  obtain ⟨L, hL⟩ : ∃ L, L = l.length + 1 := ⟨_, rfl⟩
  have hLr : (L : Int) ≤ room := by rw [hL]; exact hroom
  have HL : Hid (L = l.length + 1) := hL
  clear h h3 hk hkr hroom hL
  go_enter Try.func15, Try.ntmps15
  go_wp2_with fail
  refine hf.mono ?_
  rintro e w4 ⟨rfl, ht4⟩
  have T4 : Hid (Turned (fun _ => False) (W3 w k) w4) := ht4
  have h4 := H3.out.keep ht4
  have ho4 : Own3 w k w4 := (own3 w k).turned ht4 fun b q => q.elim
  have hc4 := lt_of_block h4.1.1
  have hN4 := lt_of_block ho4.1
  have hs4 : w.heap.size + 3 ≤ w4.heap.size := by have := lt_of_block ho4.2.2; omega
  have c1 := cell_of h4.1.1 1 _ rfl
  have k0 := cell_of ho4.1 0 _ rfl
  have k1 := cell_of ho4.1 1 _ rfl
  have hm5 : MapIs KPair (w4.alloc (nb k v)).drew bm (mpf l) l.length := h4.2.1.2.congr (by rw [heap_drew, (MapKept.heap_alloc w4 _).2 bm h4.2.1.2.lt]) fun _ => rfl
  obtain ⟨w6, hupd, hm6, ht6, -⟩ := hm5.update keyInt Try.underlying73 (kpair HK.out.2) (pt w4.heap.size)
  unfold kv at hupd
  have hT1 : Turned (fun _ => False) w4 (w4.alloc (nb k v)).drew := (Turned.alloc _ _ _).draw
  have hn1 : NdIs (w4.alloc (nb k v)).drew ⟨w4.heap.size, k, v⟩ (.pointer none) (.pointer none) := by
    show (w4.alloc (nb k v)).heap[w4.heap.size]? = _
    exact Go.Mine.heap_alloc_new _ _
  have P : Hid (∀ w7, _) := fun w7 => put_hang (w3 := w7) (N := w.heap.size + 3) (nd := ⟨w4.heap.size, k, v⟩) h4 HK.out.1 HK.out.2 rfl hs4 hT1 hn1 hm6 rfl ht6
  have hh := hang_ring c _ _ _ l ⟨w4.heap.size, k, v⟩ w6 (P.out w6).1 (P.out w6).2.1 (P.out w6).2.2.1
  have O6 : Hid (Own3 w k w6) := ((ho4.turned hT1 fun b q => q.elim).turned ht6 fun b q => by subst q; exact .inl (hSb.out _ (h4.2.2.2.2.1 _ rfl)))
  have S4 : Hid (∀ b, RingSet c (l ++ [(⟨w4.heap.size, k, v⟩ : Nd)]) b → b < w.heap.size ∨ w.heap.size + 3 ≤ b) := fun b hb => by
    simp only [RingSet, List.map_append, List.map_cons, List.map_nil, List.mem_append, List.mem_singleton] at hb
    rcases hb with hb | hb | hb
    · exact .inl (hSb.out b (h4.2.2.2.1 b (.inl hb)))
    · exact .inl (hSb.out b (h4.2.2.2.1 b (.inr hb)))
    · exact .inr (by omega)
  clear hf ht4 h4 ho4 hm5 hm6 ht6 hT1 hn1 hs4
  go_wp2
  go_region
  go_wp2_with fail
  refine hh.mono ?_
  rintro e w7 ⟨rfl, hr7, ht7, -⟩
  obtain ⟨hc7, htt, hm7⟩ := (P.out w7).2.2.2 hr7 ht7
  rw [show (l ++ [(⟨w4.heap.size, k, v⟩ : Nd)]).length = L by rw [HL.out]; simp] at hm7
  have d0 := cell_of hr7.1 0 _ rfl
  have d1 := cell_of hr7.1 1 _ rfl
  have hlen := fun ty => (show MapIs KPair w7.drew bm (mpf (l ++ [⟨w4.heap.size, k, v⟩])) L from hm7).len (P := Try.prog) Try.underlying73 ty
  have ho := O6.out.turned ht7 S4.out
  have b0 := cell_of ho.2.2 0 _ rfl
  have b1 := cell_of ho.2.2 1 _ rfl
  have a0 := cell_of ho.2.1 0 _ rfl
  have a1 := cell_of ho.2.1 1 _ rfl
  have z0 := free_of ho.2.1 0
  have z1 := free_of ho.2.1 1
  have Z : Hid (CacheAt w7 (More3 S w) c room (l ++ [⟨w4.heap.size, k, v⟩]) (some bm) ∧ Turned S w w7 ∧ Own3 w k w7) :=
    ⟨hc7, (((t3 (fun _ => False) w k).trans T4.out fun _ _ q => q).comp (T := S) htt fun i hi q => by rcases q with q | q; exact q.elim; exact q), ho⟩
  clear hh hupd P hr7 ht7 hc7 htt hm7 ho c1 k0 k1
  go_wp2
  go_region
  go_wp2
  obtain ⟨e1, e2, e3, e4⟩ := put_ends (k := ⟨0, false⟩) Z.out.1 (Z.out.2.1.mono (S' := More3 S w) fun _ _ q => .inl q) (fun b q => by rcases q with q | q; exact .inl (hSb.out b q); exact .inr q) Z.out.2.2
  exact bodyPost_ret (v := .tuple #[.agg #[.int .i8 0, .bool false], .slice none 0 0, .bool false]) (by simp [results, Try.results15, go_sem, e3, e4]) rfl ⟨rfl, ⟨_, rfl, rfl, e1.drew⟩, (e2.mono fun i hi q => by rcases q with q | q; exact q; omega).draw⟩

set_option maxHeartbeats 1000000 in
theorem put_full {c bm : Nat} {room : Int} {l : List Nd} {S : Nat → Prop} {k : Pr} {v : Sv} {w : World} (h : CacheAt w S c room l (some bm)) (hSb : Hid (∀ b, S b → b < w.heap.size)) (hkr : 0 ≤ k.a ∧ k.a ≤ 15) (hk : ∀ n ∈ l, n.k ≠ k) (hroom : room < ((l.length + 1 : Nat) : Int)) :
    Calls Try.prog 15 #[pt c, .agg #[.int .i8 k.a, .bool k.t], sv v] w fun e w' => (∃ (nd e0 : Nd) (t : List Nd), nd.k = k ∧ nd.v = v ∧ l ++ [nd] = e0 :: t ∧ e = .returned (.tuple #[.agg #[.int .i8 e0.k.a, .bool e0.k.t], sv e0.v, .bool true]) ∧ CacheAt w' (More3 S w) c room t (some bm)) ∧ Turned S w w' := by
  have q73 : ∀ (w : World) (r : Option Nat), (binOp .eql 73 (.map r) (.map none)).run Try.prog w = .ok (.bool r.isNone) w := fun w r => run_eql_map_nil w _ _ _ r Try.underlying73
  have h3 := h.keep (t3 _ w k)
  have hf := find_none h3 hkr hk
  have H3 : Hid (CacheAt (W3 w k) S c room l (some bm)) := h3
  have HK : Hid ((∀ n ∈ l, n.k ≠ k) ∧ (0 ≤ k.a ∧ k.a ≤ 15)) := ⟨hk, hkr⟩
  obtain ⟨L, hL⟩ : ∃ L, L = l.length + 1 := ⟨_, rfl⟩
  have hLr : room < (L : Int) := by rw [hL]; exact hroom
  have HL : Hid (L = l.length + 1) := hL
  clear h h3 hk hkr hroom hL
  go_enter Try.func15, Try.ntmps15
  go_wp2_with fail
  refine hf.mono ?_
  rintro e w4 ⟨rfl, ht4⟩
  have T4 : Hid (Turned (fun _ => False) (W3 w k) w4) := ht4
  have h4 := H3.out.keep ht4
  have ho4 : Own3 w k w4 := (own3 w k).turned ht4 fun b q => q.elim
  have hc4 := lt_of_block h4.1.1
  have hN4 := lt_of_block ho4.1
  have hs4 : w.heap.size + 3 ≤ w4.heap.size := by have := lt_of_block ho4.2.2; omega
  have c1 := cell_of h4.1.1 1 _ rfl
  have k0 := cell_of ho4.1 0 _ rfl
  have k1 := cell_of ho4.1 1 _ rfl
  have hm5 : MapIs KPair (w4.alloc (nb k v)).drew bm (mpf l) l.length := h4.2.1.2.congr (by rw [heap_drew, (MapKept.heap_alloc w4 _).2 bm h4.2.1.2.lt]) fun _ => rfl
  obtain ⟨w6, hupd, hm6, ht6, -⟩ := hm5.update keyInt Try.underlying73 (kpair HK.out.2) (pt w4.heap.size)
  unfold kv at hupd
  have hT1 : Turned (fun _ => False) w4 (w4.alloc (nb k v)).drew := (Turned.alloc _ _ _).draw
  have hn1 : NdIs (w4.alloc (nb k v)).drew ⟨w4.heap.size, k, v⟩ (.pointer none) (.pointer none) := by
    show (w4.alloc (nb k v)).heap[w4.heap.size]? = _
    exact Go.Mine.heap_alloc_new _ _
  have P : Hid (∀ w7, _) := fun w7 => put_hang (w3 := w7) (N := w.heap.size + 3) (nd := ⟨w4.heap.size, k, v⟩) h4 HK.out.1 HK.out.2 rfl hs4 hT1 hn1 hm6 rfl ht6
  have hh := hang_ring c _ _ _ l ⟨w4.heap.size, k, v⟩ w6 (P.out w6).1 (P.out w6).2.1 (P.out w6).2.2.1
  have O6 : Hid (Own3 w k w6) := ((ho4.turned hT1 fun b q => q.elim).turned ht6 fun b q => by subst q; exact .inl (hSb.out _ (h4.2.2.2.2.1 _ rfl)))
  have S4 : Hid (∀ b, RingSet c (l ++ [(⟨w4.heap.size, k, v⟩ : Nd)]) b → b < w.heap.size ∨ w.heap.size + 3 ≤ b) := fun b hb => by
    simp only [RingSet, List.map_append, List.map_cons, List.map_nil, List.mem_append, List.mem_singleton] at hb
    rcases hb with hb | hb | hb
    · exact .inl (hSb.out b (h4.2.2.2.1 b (.inl hb)))
    · exact .inl (hSb.out b (h4.2.2.2.1 b (.inr hb)))
    · exact .inr (by omega)
  clear hf ht4 h4 ho4 hm5 hm6 ht6 hT1 hn1 hs4
  go_wp2
  go_region
  go_wp2_with fail
  refine hh.mono ?_
  rintro e w7 ⟨rfl, hr7, ht7, -⟩
  obtain ⟨hc7, htt, hm7⟩ := (P.out w7).2.2.2 hr7 ht7
  rw [show (l ++ [(⟨w4.heap.size, k, v⟩ : Nd)]).length = L by rw [HL.out]; simp] at hm7
  have ho := O6.out.turned ht7 S4.out
  obtain ⟨e0, t, het⟩ : ∃ e0 t, l ++ [(⟨w4.heap.size, k, v⟩ : Nd)] = e0 :: t := by
    cases l with
    | nil => exact ⟨_, _, rfl⟩
    | cons x y => exact ⟨_, _, rfl⟩
  rw [het] at hr7 hc7 hm7
  have d0 := cell_of hr7.1 0 _ rfl
  have d1 := cell_of hr7.1 1 _ rfl
  have d2 : w7.cell? ⟨c, 2, none⟩ = some (pt e0.b) := cell_of hr7.1 2 _ rfl
  have n0 := cell_of hr7.2.1.1 0 _ rfl
  have n1 := cell_of hr7.2.1.1 1 _ rfl
  have hlen := fun ty => (show MapIs KPair w7.drew bm (mpf (e0 :: t)) L from hm7).len (P := Try.prog) Try.underlying73 ty
  have hdr := drop_some (l1 := []) hc7.drew
  have ET : Hid (l ++ [(⟨w4.heap.size, k, v⟩ : Nd)] = e0 :: t) := het
  have Z : Hid (Turned S w w7 ∧ Own3 w k w7) := ⟨((t3 (fun _ => False) w k).trans T4.out fun _ _ q => q).comp (T := S) htt fun i hi q => by rcases q with q | q; exact q.elim; exact q, ho⟩
  clear hh hupd P hr7 ht7 hc7 htt hm7 ho c1 k0 k1 het
  go_wp2
  go_region
  go_wp2_with (go_at_call 36; (with_reducible refine hdr.mono ?_); rintro e w8 ⟨rfl, hc8, ht8, hn8⟩)
  have hm3 : ∀ b, (S b ∨ w.heap.size + 3 ≤ b) → b < w.heap.size ∨ w.heap.size + 3 ≤ b := fun b q => by rcases q with q | q; exact .inl (hSb.out b q); exact .inr q
  have ho8 := (Z.out.2.turned (Turned.drew (fun _ => False) _) fun b q => q.elim).turned ht8 hm3
  have x0 := cell_of hn8 0 _ rfl
  have x1 := cell_of hn8 1 _ rfl
  have x2 := cell_of hn8 2 _ rfl
  have a0 := cell_of ho8.2.1 0 _ rfl
  have a1 := cell_of ho8.2.1 1 _ rfl
  have z0 := free_of ho8.2.1 0
  have z1 := free_of ho8.2.1 1
  have Z8 : Hid (CacheAt w8 (More3 S w) c room t (some bm) ∧ Turned (More3 S w) w w8 ∧ Own3 w k w8) :=
    ⟨hc8, Turned.comp (T := More3 S w) (Z.out.1.draw) ht8 fun i hi q => by rcases q with q | q; exact .inl q; exact q, ho8⟩
  clear hdr hc8 ht8 hn8 hm3 ho8 n0 n1 d0 d1 d2 hlen
  go_region
  go_wp2
  obtain ⟨e1, e2, e3, e4⟩ := put_ends (k := e0.k) Z8.out.1 Z8.out.2.1 (fun b q => by rcases q with q | q; exact .inl (hSb.out b q); exact .inr q) Z8.out.2.2
  exact bodyPost_ret (v := .tuple #[.agg #[.int .i8 e0.k.a, .bool e0.k.t], sv e0.v, .bool true]) (by simp [results, Try.results15, go_sem, e3, e4]) rfl ⟨⟨⟨w4.heap.size, k, v⟩, e0, t, rfl, rfl, ET.out, rfl, e1.drew⟩, (e2.mono fun i hi q => by rcases q with q | q; exact q; omega).draw⟩

end Go.Proofs.Ytbhafcmdmpebiaa.Pair
