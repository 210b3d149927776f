/- Put on the cache of ints by ints. -/
import Derived.Test.YtbhafcmdmpebiaaPut
namespace Go.Proofs.Ytbhafcmdmpebiaa
open Go.RowKit Go.Mine

theorem Ring.turned {S : Nat → Prop} {w w' : World} {c : Nat} {r mp : Value} {l : List Nd} (h : Ring w c r mp l) (ht : Turned S w w') (hS : ∀ b, RingSet c l b → ¬ S b) : Ring w' c r mp l :=
  ⟨h.1.turned ht (hS c (.inl rfl)), Seg.turned ht h.2.1 fun m hm => hS m.b (.inr (List.mem_map.2 ⟨m, hm, rfl⟩)), h.2.2⟩

theorem CacheAt.turned {S T : Nat → Prop} {w w' : World} {c : Nat} {room : Int} {l : List Nd} {mo : Option Nat} (h : CacheAt w S c room l mo) (ht : Turned T w w') (hS : ∀ b, S b → ¬ T b) : CacheAt w' S c room l mo := by
  obtain ⟨h1, h2, h3, h4, h5⟩ := h
  refine ⟨h1.turned ht fun b hb => hS b (h4 b hb), ?_, h3, h4, h5⟩
  cases mo with
  | none => exact h2
  | some bm => exact ⟨h2.1, h2.2.congr (ht.block bm h2.2.lt (hS bm (h5 bm rfl))) fun _ => rfl⟩
theorem CacheAt.drew {S : Nat → Prop} {w : World} {c : Nat} {room : Int} {l : List Nd} {mo : Option Nat} (h : CacheAt w S c room l mo) : CacheAt w.drew S c room l mo :=
  h.turned (Turned.drew (fun _ => False) w) fun _ _ q => q

theorem CacheAt.widen {S T : Nat → Prop} {w : World} {c : Nat} {room : Int} {l : List Nd} {mo : Option Nat} (h : CacheAt w S c room l mo) (hS : ∀ b, S b → T b) : CacheAt w T c room l mo :=
  ⟨h.1, h.2.1, h.2.2.1, fun b hb => hS b (h.2.2.2.1 b hb), fun b hb => hS b (h.2.2.2.2 b hb)⟩

theorem Ring.lt {w : World} {c : Nat} {r mp : Value} {l : List Nd} (h : Ring w c r mp l) {b : Nat} (hb : RingSet c l b) : b < w.heap.size := by
  rcases hb with rfl | hb
  · exact lt_of_block h.1
  · obtain ⟨n, hn, rfl⟩ := List.mem_map.1 hb
    obtain ⟨l1, l2, rfl⟩ := List.append_of_mem hn
    obtain ⟨p, q, h⟩ := NdOf h
    exact lt_of_block h

open Classical in
theorem mpf_put {l : List Nd} {nd : Nd} (hk : ∀ n ∈ l, n.k ≠ nd.k) (key : Value) :
    mpf (l ++ [nd]) key = if key = .int .i64 nd.k then some (pt nd.b) else mpf l key := by
  split
  · subst_vars
    simp only [mpf, List.find?_append]
    have : l.find? (fun n => decide (n.k = nd.k)) = none := by
      rw [List.find?_eq_none]; intro n hn; simpa using hk n hn
    simp [this]
  · rename_i h
    by_cases hi : ∃ k, key = .int .i64 k
    · obtain ⟨k, rfl⟩ := hi
      have hk' : nd.k ≠ k := fun z => h (by rw [z])
      simp only [mpf, List.find?_append, List.find?_cons]
      rw [show (decide (nd.k = k)) = false by simpa using hk']
      simp
    · rw [mpf_other hi, mpf_other hi]

open Classical in
theorem put_hang {c bm : Nat} {room : Int} {l : List Nd} {S : Nat → Prop} {nd : Nd} {w w1 w2 w3 : World} (h : CacheAt w S c room l (some bm)) (hk : ∀ n ∈ l, n.k ≠ nd.k)
    (hnd : nd.b = w.heap.size) (hw1 : w1 = w.alloc (.cells #[.int .i64 nd.k, .int .i64 nd.v, .pointer none, .pointer none] 71)) {sz : Nat} (hm2 : MapIs KInt w2 bm (fun y => if y = .int .i64 nd.k then some (pt nd.b) else mpf l y) sz) (hsz : sz = if (mpf l (.int .i64 nd.k)).isSome then l.length else l.length + 1) (ht2 : Turned (· = bm) w1 w2) :
    Ring w2 c (.int .i64 room) (.map (some bm)) l ∧ NdIs w2 nd (.pointer none) (.pointer none) ∧ ¬ RingSet c l nd.b ∧
    (Ring w3 c (.int .i64 room) (.map (some bm)) (l ++ [nd]) → Turned (RingSet c (l ++ [nd])) w2 w3 →
      CacheAt w3 (More S w) c room (l ++ [nd]) (some bm) ∧ Turned S w w3 ∧ MapIs KInt w3 bm (mpf (l ++ [nd])) (l ++ [nd]).length) := by
  subst hw1
  have hsub : ∀ b, RingSet c l b → ¬ (b = bm) := fun b hb q => h.2.1.1 (q ▸ hb)
  have hr1 := h.1.turned (Turned.alloc (fun _ => False) w (.cells #[.int .i64 nd.k, .int .i64 nd.v, .pointer none, .pointer none] 71)) fun _ _ q => q
  have hn1 : NdIs (w.alloc (.cells #[.int .i64 nd.k, .int .i64 nd.v, .pointer none, .pointer none] 71)) nd (.pointer none) (.pointer none) := by
    unfold NdIs Blk; rw [hnd]; exact heap_alloc_new _ _
  have hbm := h.2.1.2.lt
  refine ⟨hr1.turned ht2 hsub, hn1.turned ht2 (by omega), fun q => by have := h.1.lt q; omega, fun hr3 ht3 => ?_⟩
  have hset : ∀ b, RingSet c (l ++ [nd]) b → RingSet c l b ∨ b = nd.b := by
    intro b hb
    simp only [RingSet, List.map_append, List.map_cons, List.map_nil, List.mem_append, List.mem_singleton] at hb ⊢
    rcases hb with hb | hb | hb <;> simp [hb]
  have hmap : MapIs KInt w3 bm (mpf (l ++ [nd])) (l ++ [nd]).length := by
    have hb3 : w3.heap[bm]? = w2.heap[bm]? := by
      refine ht3.block bm hm2.lt fun q => ?_
      rcases hset bm q with q | q
      · exact h.2.1.1 q
      · omega
    have := hm2.congr hb3 (mpf_put hk)
    rw [hsz, mpf_none hk] at this
    simpa using this
  refine ⟨⟨hr3, ⟨fun q => ?_, hmap⟩, ?_, fun b hb => ?_, fun b hb => .inl (h.2.2.2.2 b hb)⟩, ?_, hmap⟩
  · rcases hset bm q with q | q
    · exact h.2.1.1 q
    · omega
  · rw [List.map_append, List.nodup_append]
    refine ⟨h.2.2.1, by simp, ?_⟩
    intro a ha b hb
    obtain ⟨n, hn, rfl⟩ := List.mem_map.1 ha
    simp at hb; subst hb
    exact hk n hn
  · rcases hset b hb with q | q
    · exact .inl (h.2.2.2.1 b q)
    · exact .inr (by omega)
  · refine Turned.comp (S := S) (T := S) (Turned.comp (T := S) (Turned.alloc S w _) ht2 fun i hi q => ?_) ht3 fun i hi q => ?_
    · rcases q with q | q
      · exact q
      · exact h.2.2.2.2 i (by rw [q])
    · rcases q with q | q
      · exact q
      · rcases hset i q with q | q
        · exact h.2.2.2.1 i q
        · omega

set_option maxHeartbeats 1000000 in
theorem put_fits {c bm : Nat} {room : Int} {l : List Nd} {S : Nat → Prop} {k v : Int} {w : World} (h : CacheAt w S c room l (some bm)) (hk : ∀ n ∈ l, n.k ≠ k) (hroom : ((l.length + 1 : Nat) : Int) ≤ room) :
    Calls Try.prog 9 #[pt c, .int .i64 k, .int .i64 v] w fun e w' => e = .returned (.tuple #[.int .i64 0, .int .i64 0, .bool false]) ∧ CacheAt w' (More S w) c room (l ++ [⟨w.heap.size, k, v⟩]) (some bm) ∧ Turned S w w' := by
  have q59 : ∀ (w : World) (r : Option Nat), (binOp .eql 59 (.map r) (.map none)).run Try.prog w = .ok (.bool r.isNone) w := fun w r => run_eql_map_nil w _ _ _ r Try.underlying59
  have hf := find_none h hk
  have hc1 := cell_of h.1.1 1 _ rfl
  have hm1 : MapIs KInt (w.alloc (.cells #[.int .i64 k, .int .i64 v, .pointer none, .pointer none] 71)) bm (mpf l) l.length := h.2.1.2.congr (by rw [(MapKept.heap_alloc w _).2 bm h.2.1.2.lt]) fun _ => rfl
  have hlt := lt_of_block h.1.1
  have H := fun sz w2 w3 hm2 hsz ht2 => put_hang (nd := ⟨w.heap.size, k, v⟩) (w2 := w2) (w3 := w3) (sz := sz) h hk rfl rfl hm2 hsz ht2
  obtain ⟨L, hL⟩ : ∃ L, L = (l ++ [(⟨w.heap.size, k, v⟩ : Nd)]).length := ⟨_, rfl⟩
  have hLr : (L : Int) ≤ room := by rw [hL]; simpa using hroom
  clear h hroom
  go_enter Try.func9, Try.ntmps9
  go_wp2_with (first | (go_at_call 30; refine hf.mono ?_; rintro e w' ⟨rfl, rfl⟩) | (at_mapUpdate; go_must (refine wpList_update rfl _ _ _ 59 rfl 3 60 keyInt Try.underlying59 hm1 rfl (.int .i64 k) (pt w.heap.size) rfl rfl (kk _) ?_); intro w2 hm2 ht2 _))
  have H3 := fun w3 => H _ w2 w3 hm2 rfl ht2
  refine (hang_ring c _ _ _ l ⟨w.heap.size, k, v⟩ w2 (H3 w2).1 (H3 w2).2.1 (H3 w2).2.2.1).mono ?_
  rintro e w3 ⟨rfl, hr3, ht3, -⟩
  obtain ⟨hc3, htt, hm3⟩ := (H3 w3).2.2.2 hr3 ht3
  rw [← hL] at hm3
  have d0 := cell_of hr3.1 0 _ rfl
  have d1 := cell_of hr3.1 1 _ rfl
  have hlen := fun ty => (show MapIs KInt w3.drew bm (mpf (l ++ [⟨w.heap.size, k, v⟩])) L from hm3).len (P := Try.prog) Try.underlying59 ty
  clear H H3 hm1 hm2 hf hc1 hlt ht2 hL
  go_wp2_with fail
  go_region
  go_wp2
  go_ret3
  exact ⟨rfl, hc3.drew, htt.draw⟩

set_option maxHeartbeats 1000000 in
theorem put_full {c bm : Nat} {room : Int} {l : List Nd} {S : Nat → Prop} {k v : Int} {w : World} (h : CacheAt w S c room l (some bm)) (hk : ∀ n ∈ l, n.k ≠ k) (hroom : room < ((l.length + 1 : Nat) : Int)) (e0 : Nd) (t : List Nd) (het : l ++ [⟨w.heap.size, k, v⟩] = e0 :: t) :
    Calls Try.prog 9 #[pt c, .int .i64 k, .int .i64 v] w fun e w' => e = .returned (.tuple #[.int .i64 e0.k, .int .i64 e0.v, .bool true]) ∧ CacheAt w' (More S w) c room t (some bm) ∧ Turned S w w' := by
  have q59 : ∀ (w : World) (r : Option Nat), (binOp .eql 59 (.map r) (.map none)).run Try.prog w = .ok (.bool r.isNone) w := fun w r => run_eql_map_nil w _ _ _ r Try.underlying59
  have hf := find_none h hk
  have hc1 := cell_of h.1.1 1 _ rfl
  have hm1 : MapIs KInt (w.alloc (.cells #[.int .i64 k, .int .i64 v, .pointer none, .pointer none] 71)) bm (mpf l) l.length := h.2.1.2.congr (by rw [(MapKept.heap_alloc w _).2 bm h.2.1.2.lt]) fun _ => rfl
  have hlt := lt_of_block h.1.1
  have H := fun sz w2 w3 hm2 hsz ht2 => put_hang (nd := ⟨w.heap.size, k, v⟩) (w2 := w2) (w3 := w3) (sz := sz) h hk rfl rfl hm2 hsz ht2
  obtain ⟨L, hL⟩ : ∃ L, L = (l ++ [(⟨w.heap.size, k, v⟩ : Nd)]).length := ⟨_, rfl⟩
  have hLr : room < (L : Int) := by rw [hL]; simpa using hroom
  clear h hroom
  go_enter Try.func9, Try.ntmps9
  go_wp2_with (first | (go_at_call 30; refine hf.mono ?_; rintro e w' ⟨rfl, rfl⟩) | (at_mapUpdate; go_must (refine wpList_update rfl _ _ _ 59 rfl 3 60 keyInt Try.underlying59 hm1 rfl (.int .i64 k) (pt w.heap.size) rfl rfl (kk _) ?_); intro w2 hm2 ht2 _))
  have H3 := fun w3 => H _ w2 w3 hm2 rfl ht2
  refine (hang_ring c _ _ _ l ⟨w.heap.size, k, v⟩ w2 (H3 w2).1 (H3 w2).2.1 (H3 w2).2.2.1).mono ?_
  rintro e w3 ⟨rfl, hr3, ht3, -⟩
  obtain ⟨hc3, htt, hm3⟩ := (H3 w3).2.2.2 hr3 ht3
  rw [← hL] at hm3
  rw [het] at hr3 hc3 hm3
  have d0 := cell_of hr3.1 0 _ rfl
  have d1 := cell_of hr3.1 1 _ rfl
  have d2 : w3.cell? ⟨c, 2, none⟩ = some (pt e0.b) := cell_of hr3.1 2 _ rfl
  have n0 := cell_of hr3.2.1.1 0 _ rfl
  have hdr := drop_some (l1 := []) hc3.drew
  have hlen := fun ty => (show MapIs KInt w3.drew bm (mpf (e0 :: t)) L from hm3).len (P := Try.prog) Try.underlying59 ty
  clear het H H3 hm1 hm2 hf hc1 hlt ht2 hL
  go_wp2_with fail
  go_region
  go_wp2_with (go_at_call 23; refine hdr.mono ?_; rintro e w4 ⟨rfl, hc4, ht4, hn4⟩; have m0 := cell_of hn4 0 _ rfl; have m1 := cell_of hn4 1 _ rfl)
  go_region
  go_wp2
  go_ret3
  exact ⟨rfl, hc4.drew, (htt.draw.comp ht4 fun i hi q => by rcases q with q | q | q; exact q; exact q; exact absurd q (by omega)).draw⟩

theorem makes {c : Nat} {room : Int} {S : Nat → Prop} {w : World} (h : CacheAt w S c room [] none) : CacheAt ((w.setCell ⟨c, 1, none⟩ (.map (some w.heap.size))).alloc (.map #[] 0)) (More S w) c room [] (some w.heap.size) := by
  have hc := lt_of_block h.1.1
  have hb : Blk (w.setCell ⟨c, 1, none⟩ (.map (some w.heap.size))) c #[.int .i64 room, .map (some w.heap.size), .pointer none, .pointer none] 62 := Go.Mine.heap_setCell_same h.1.1 _
  refine ⟨⟨Go.Mine.heap_alloc_old hb, trivial, by simp⟩, ⟨?_, ?_⟩, by simp, fun b hb => .inl (h.2.2.2.1 b hb), fun b hb => .inr (by simp at hb; omega)⟩
  · simp only [RingSet, List.map_nil, List.not_mem_nil, or_false]; omega
  · have := MapIs.made KInt (w.setCell ⟨c, 1, none⟩ (.map (some w.heap.size)))
    rw [setCell_size] at this
    refine this.congr rfl fun key => ?_
    unfold mpf; split <;> simp

set_option maxHeartbeats 1000000 in
theorem put_fits0 {c : Nat} {room : Int} {S : Nat → Prop} {k v : Int} {w : World} (h : CacheAt w S c room [] none) (hroom : (1 : Int) ≤ room) :
    Calls Try.prog 9 #[pt c, .int .i64 k, .int .i64 v] w fun e w' => e = .returned (.tuple #[.int .i64 0, .int .i64 0, .bool false]) ∧ CacheAt w' (More S w) c room ([⟨w.heap.size + 1, k, v⟩]) (some w.heap.size) ∧ Turned S w w' := by
  have q59 : ∀ (w : World) (r : Option Nat), (binOp .eql 59 (.map r) (.map none)).run Try.prog w = .ok (.bool r.isNone) w := fun w r => run_eql_map_nil w _ _ _ r Try.underlying59
  have hf := find_none (k := k) h (by simp)
  have hw0 := makes h
  have hT0 : Turned S w ((w.setCell ⟨c, 1, none⟩ (.map (some w.heap.size))).alloc (.map #[] 0)) := ((Turned.refl _ _).set (h.2.2.2.1 c (.inl rfl)) _).new _
  have hMM : ∀ b, More (More S w) ((w.setCell ⟨c, 1, none⟩ (.map (some w.heap.size))).alloc (.map #[] 0)) b → More S w b := by
    intro b hb
    rcases hb with hb | hb
    · exact hb
    · refine .inr ?_; simp at hb; omega
  have hc1 := cell_of h.1.1 1 _ rfl
  have hfr := free_of h.1.1 1
  have hmm := @run_makeMap Try.prog
  have hm1 : MapIs KInt (((w.setCell ⟨c, 1, none⟩ (.map (some w.heap.size))).alloc (.map #[] 0)).alloc (.cells #[.int .i64 k, .int .i64 v, .pointer none, .pointer none] 71)) w.heap.size (mpf []) 0 := hw0.2.1.2.congr (by rw [(MapKept.heap_alloc _ _).2 _ hw0.2.1.2.lt]) fun _ => rfl
  have hlt := lt_of_block h.1.1
  have H := fun sz w2 w3 hm2 hsz ht2 => put_hang (nd := ⟨w.heap.size + 1, k, v⟩) (w2 := w2) (w3 := w3) (sz := sz) hw0 (by simp) (by simp) rfl hm2 hsz ht2
  obtain ⟨L, hL⟩ : ∃ L, L = ([(⟨w.heap.size + 1, k, v⟩ : Nd)]).length := ⟨_, rfl⟩
  have hLr : (L : Int) ≤ room := by rw [hL]; simpa using hroom
  clear h hroom hw0
  go_enter Try.func9, Try.ntmps9
  go_wp2_with (first | (go_at_call 30; refine hf.mono ?_; rintro e w' ⟨rfl, rfl⟩) | (at_mapUpdate; go_must (refine wpList_update rfl _ _ _ 59 rfl 3 60 keyInt Try.underlying59 hm1 rfl (.int .i64 k) (pt (w.heap.size + 1)) rfl rfl (kk _) ?_); intro w2 hm2 ht2 _))
  have H3 := fun w3 => H _ w2 w3 hm2 rfl ht2
  refine (hang_ring c _ _ _ [] ⟨w.heap.size + 1, k, v⟩ w2 (H3 w2).1 (H3 w2).2.1 (H3 w2).2.2.1).mono ?_
  rintro e w3 ⟨rfl, hr3, ht3, -⟩
  obtain ⟨hc3, htt, hm3⟩ := (H3 w3).2.2.2 hr3 ht3
  rw [List.nil_append] at hr3 hc3 hm3
  rw [← hL] at hm3
  have d0 := cell_of hr3.1 0 _ rfl
  have d1 := cell_of hr3.1 1 _ rfl
  have hlen := fun ty => (show MapIs KInt w3.drew w.heap.size (mpf [⟨w.heap.size + 1, k, v⟩]) L from hm3).len (P := Try.prog) Try.underlying59 ty
  clear H H3 hm1 hm2 hf hc1 hlt ht2 hL
  go_wp2_with fail
  go_region
  go_wp2
  go_ret3
  exact ⟨rfl, (hc3.widen hMM).drew, (hT0.comp htt fun i hi q => by rcases q with q | q | q; exact q; exact q; exact absurd q (by omega)).draw⟩

set_option maxHeartbeats 1000000 in
theorem put_full0 {c : Nat} {room : Int} {S : Nat → Prop} {k v : Int} {w : World} (h : CacheAt w S c room [] none) (hroom : room < (1 : Int)) (e0 : Nd) (t : List Nd) (het : [⟨w.heap.size + 1, k, v⟩] = e0 :: t) :
    Calls Try.prog 9 #[pt c, .int .i64 k, .int .i64 v] w fun e w' => e = .returned (.tuple #[.int .i64 e0.k, .int .i64 e0.v, .bool true]) ∧ CacheAt w' (More S w) c room t (some w.heap.size) ∧ Turned S w w' := by
  have q59 : ∀ (w : World) (r : Option Nat), (binOp .eql 59 (.map r) (.map none)).run Try.prog w = .ok (.bool r.isNone) w := fun w r => run_eql_map_nil w _ _ _ r Try.underlying59
  have hf := find_none (k := k) h (by simp)
  have hw0 := makes h
  have hT0 : Turned S w ((w.setCell ⟨c, 1, none⟩ (.map (some w.heap.size))).alloc (.map #[] 0)) := ((Turned.refl _ _).set (h.2.2.2.1 c (.inl rfl)) _).new _
  have hMM : ∀ b, More (More S w) ((w.setCell ⟨c, 1, none⟩ (.map (some w.heap.size))).alloc (.map #[] 0)) b → More S w b := by
    intro b hb
    rcases hb with hb | hb
    · exact hb
    · refine .inr ?_; simp at hb; omega
  have hc1 := cell_of h.1.1 1 _ rfl
  have hfr := free_of h.1.1 1
  have hmm := @run_makeMap Try.prog
  have hm1 : MapIs KInt (((w.setCell ⟨c, 1, none⟩ (.map (some w.heap.size))).alloc (.map #[] 0)).alloc (.cells #[.int .i64 k, .int .i64 v, .pointer none, .pointer none] 71)) w.heap.size (mpf []) 0 := hw0.2.1.2.congr (by rw [(MapKept.heap_alloc _ _).2 _ hw0.2.1.2.lt]) fun _ => rfl
  have hlt := lt_of_block h.1.1
  have H := fun sz w2 w3 hm2 hsz ht2 => put_hang (nd := ⟨w.heap.size + 1, k, v⟩) (w2 := w2) (w3 := w3) (sz := sz) hw0 (by simp) (by simp) rfl hm2 hsz ht2
  obtain ⟨L, hL⟩ : ∃ L, L = ([(⟨w.heap.size + 1, k, v⟩ : Nd)]).length := ⟨_, rfl⟩
  have hLr : room < (L : Int) := by rw [hL]; simpa using hroom
  clear h hroom hw0
  go_enter Try.func9, Try.ntmps9
  go_wp2_with (first | (go_at_call 30; refine hf.mono ?_; rintro e w' ⟨rfl, rfl⟩) | (at_mapUpdate; go_must (refine wpList_update rfl _ _ _ 59 rfl 3 60 keyInt Try.underlying59 hm1 rfl (.int .i64 k) (pt (w.heap.size + 1)) rfl rfl (kk _) ?_); intro w2 hm2 ht2 _))
  have H3 := fun w3 => H _ w2 w3 hm2 rfl ht2
  refine (hang_ring c _ _ _ [] ⟨w.heap.size + 1, k, v⟩ w2 (H3 w2).1 (H3 w2).2.1 (H3 w2).2.2.1).mono ?_
  rintro e w3 ⟨rfl, hr3, ht3, -⟩
  obtain ⟨hc3, htt, hm3⟩ := (H3 w3).2.2.2 hr3 ht3
  rw [List.nil_append] at hr3 hc3 hm3
  rw [← hL] at hm3
  rw [het] at hr3 hc3 hm3
  have d0 := cell_of hr3.1 0 _ rfl
  have d1 := cell_of hr3.1 1 _ rfl
  have d2 : w3.cell? ⟨c, 2, none⟩ = some (pt e0.b) := cell_of hr3.1 2 _ rfl
  have n0 := cell_of hr3.2.1.1 0 _ rfl
  have hdr := drop_some (l1 := []) hc3.drew
  have hlen := fun ty => (show MapIs KInt w3.drew w.heap.size (mpf (e0 :: t)) L from hm3).len (P := Try.prog) Try.underlying59 ty
  clear het H H3 hm1 hm2 hf hc1 hlt ht2 hL
  go_wp2_with fail
  go_region
  go_wp2_with (go_at_call 23; refine hdr.mono ?_; rintro e w4 ⟨rfl, hc4, ht4, hn4⟩; have m0 := cell_of hn4 0 _ rfl; have m1 := cell_of hn4 1 _ rfl)
  go_region
  go_wp2
  go_ret3
  exact ⟨rfl, (hc4.widen hMM).drew, ((hT0.comp (T := S) htt fun i hi q => by rcases q with q | q | q; exact q; exact q; exact absurd q (by omega)).draw.comp ht4 fun i hi q => by rcases q with q | q; exact q; rcases hMM i q with q | q; exact q; exact absurd q (by omega)).draw⟩

end Go.Proofs.Ytbhafcmdmpebiaa
