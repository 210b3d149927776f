/- Put on the cache of pairs by lists whose map is nil. -/
import Derived.Test.YtbhafcmdmpebiaaPairQ
namespace Go.Proofs.Ytbhafcmdmpebiaa.Pair
open Go.RowKit Go.Mine

theorem makes {c : Nat} {room : Int} {S : Nat → Prop} {w w4 : World} (h : CacheAt w4 S c room [] none) (hs : w.heap.size + 3 ≤ w4.heap.size) (hcw : c < w.heap.size) :
    CacheAt ((w4.setCell ⟨c, 1, none⟩ (.map (some w4.heap.size))).alloc (.map #[] 0)) (More3 S w) c room [] (some w4.heap.size) := by
  have hb : Blk (w4.setCell ⟨c, 1, none⟩ (.map (some w4.heap.size))) c #[.int .i64 room, .map (some w4.heap.size), .pointer none, .pointer none] 76 := Go.Mine.heap_setCell_same h.1.1 _
  refine ⟨⟨Go.Mine.heap_alloc_old hb, trivial, by simp⟩, ⟨?_, ?_⟩, by simp, fun b hb => .inl (h.2.2.2.1 b hb), fun b hb => .inr (by simp at hb; omega), by simp⟩
  · simp only [RingSet, List.map_nil, List.not_mem_nil, or_false]; omega
  · have := MapIs.made KPair (w4.setCell ⟨c, 1, none⟩ (.map (some w4.heap.size)))
    rw [setCell_size] at this
    refine this.congr rfl fun key => ?_
    unfold mpf; cases unkv key <;> simp

set_option maxHeartbeats 1000000 in
theorem put_fits0 {c : Nat} {room : Int} {S : Nat → Prop} {k : Pr} {v : Sv} {w : World} (h : CacheAt w S c room [] none) (hSb : Hid (∀ b, S b → b < w.heap.size)) (hkr : 0 ≤ k.a ∧ k.a ≤ 15) (hroom : ((0 + 1 : Nat) : Int) ≤ room) :
    Calls Try.prog 15 #[pt c, .agg #[.int .i8 k.a, .bool k.t], sv v] w fun e w' => e = .returned (.tuple #[.agg #[.int .i8 0, .bool false], .slice none 0 0, .bool false]) ∧
      (∃ (nd : Nd) (w4b : Nat), nd.k = k ∧ nd.v = v ∧ CacheAt w' (More3 S w) c room [nd] (some w4b)) ∧ Turned S w w' := by
  have q73 : ∀ (w : World) (r : Option Nat), (binOp .eql 73 (.map r) (.map none)).run Try.prog w = .ok (.bool r.isNone) w := fun w r => run_eql_map_nil w _ _ _ r Try.underlying73
  have h3 := h.keep (t3 _ w k)
  have hf := find_none h3 hkr (by simp)
  have H3 : Hid (CacheAt (W3 w k) S c room [] none) := h3
  have HK : Hid ((∀ n ∈ ([] : List Nd), n.k ≠ k) ∧ (0 ≤ k.a ∧ k.a ≤ 15)) := ⟨by simp, hkr⟩
  have hmm := @run_makeMap Try.prog
  obtain ⟨L, hL⟩ : ∃ L, L = 0 + 1 := ⟨_, rfl⟩
  have hLr : (L : Int) ≤ room := by rw [hL]; exact hroom
  have HL : Hid (L = 0 + 1) := hL
  clear h h3 hkr hroom hL
  go_enter Try.func15, Try.ntmps15
  go_wp2_with fail
  refine hf.mono ?_
  rintro e w4 ⟨rfl, ht4⟩
  have T4 : Hid (Turned (fun _ => False) (W3 w k) w4) := ht4
  have h4 := H3.out.keep ht4
  have ho4 : Own3 w k w4 := (own3 w k).turned ht4 fun b q => q.elim
  have hS4s : w.heap.size + 3 ≤ w4.heap.size := by have := lt_of_block ho4.2.2; omega
  have hcS : S c := h4.2.2.2.1 c (.inl rfl)
  have hcw : c < w.heap.size := hSb.out c hcS
  have c1 := cell_of h4.1.1 1 _ rfl
  have f1 := free_of h4.1.1 1
  have hM := makes (w := w) h4 hS4s hcw
  have tM : Turned S w4 ((w4.setCell ⟨c, 1, none⟩ (.map (some w4.heap.size))).alloc (.map #[] 0)) := ((Turned.refl _ _).set (p := ⟨c, 1, none⟩) hcS _).new _
  have hoM : Own3 w k ((w4.setCell ⟨c, 1, none⟩ (.map (some w4.heap.size))).alloc (.map #[] 0)) := ho4.turned tM fun b q => .inl (hSb.out b q)
  have k0 := cell_of ho4.1 0 _ rfl
  have k1 := cell_of ho4.1 1 _ rfl
  have hne : ¬ w.heap.size = c := by omega
  have hl5 : c < w4.heap.size := by omega
  have hl6 : w.heap.size < w4.heap.size := by omega
  have hsM : ((w4.setCell ⟨c, 1, none⟩ (.map (some w4.heap.size))).alloc (.map #[] 0)).heap.size = w4.heap.size + 1 := by simp
  have hl3 : c < w4.heap.size + 1 := by omega
  have hl4 : w.heap.size < w4.heap.size + 1 := by omega
  have hm5 : MapIs KPair (((w4.setCell ⟨c, 1, none⟩ (.map (some w4.heap.size))).alloc (.map #[] 0)).alloc (nb k v)).drew w4.heap.size (mpf []) 0 := hM.2.1.2.congr (by rw [heap_drew, (MapKept.heap_alloc ((w4.setCell ⟨c, 1, none⟩ (.map (some w4.heap.size))).alloc (.map #[] 0)) _).2 _ hM.2.1.2.lt]) fun _ => rfl
  obtain ⟨w6, hupd, hm6, ht6, -⟩ := hm5.update keyInt Try.underlying73 (kpair HK.out.2) (pt (w4.heap.size + 1))
  unfold kv at hupd
  have hT1 : Turned (fun _ => False) ((w4.setCell ⟨c, 1, none⟩ (.map (some w4.heap.size))).alloc (.map #[] 0)) (((w4.setCell ⟨c, 1, none⟩ (.map (some w4.heap.size))).alloc (.map #[] 0)).alloc (nb k v)).drew := (Turned.alloc _ _ _).draw
  have hn1 : NdIs (((w4.setCell ⟨c, 1, none⟩ (.map (some w4.heap.size))).alloc (.map #[] 0)).alloc (nb k v)).drew ⟨w4.heap.size + 1, k, v⟩ (.pointer none) (.pointer none) := by
    have := Go.Mine.heap_alloc_new ((w4.setCell ⟨c, 1, none⟩ (.map (some w4.heap.size))).alloc (.map #[] 0)) (nb k v)
    rw [hsM] at this
    exact this
  have P : Hid (∀ w7, _) := fun w7 => put_hang (w3 := w7) (N := w.heap.size + 3) (nd := ⟨w4.heap.size + 1, k, v⟩) hM HK.out.1 HK.out.2 hsM.symm (by omega) hT1 hn1 hm6 rfl ht6
  have hh := hang_ring c _ _ _ [] ⟨w4.heap.size + 1, k, v⟩ w6 (P.out w6).1 (P.out w6).2.1 (P.out w6).2.2.1
  have O6 : Hid (Own3 w k w6) := ((hoM.turned hT1 fun b q => q.elim).turned ht6 fun b q => by subst q; exact .inr hS4s)
  have TM : Hid (Turned S w4 ((w4.setCell ⟨c, 1, none⟩ (.map (some w4.heap.size))).alloc (.map #[] 0))) := tM
  have HC : Hid (c < w.heap.size) := hcw
  have S4 : Hid (∀ b, RingSet c ([] ++ [(⟨w4.heap.size + 1, k, v⟩ : Nd)]) b → b < w.heap.size ∨ w.heap.size + 3 ≤ b) := fun b hb => by
    simp only [RingSet, List.nil_append, List.map_cons, List.map_nil, List.mem_singleton] at hb
    rcases hb with hb | hb
    · subst hb; exact .inl hcw
    · exact .inr (by omega)
  clear hf ht4 h4 ho4 hm5 hm6 ht6 hT1 hn1 hM tM hoM hcS hsM
  go_wp2
  go_region
  go_wp2_with fail
  refine hh.mono ?_
  rintro e w7 ⟨rfl, hr7, ht7, -⟩
  obtain ⟨hc7, htt, hm7⟩ := (P.out w7).2.2.2 hr7 ht7
  rw [List.nil_append] at hr7 hc7 hm7
  rw [show ([(⟨w4.heap.size + 1, k, v⟩ : Nd)]).length = L by rw [HL.out]; simp] at hm7
  have d0 := cell_of hr7.1 0 _ rfl
  have d1 := cell_of hr7.1 1 _ rfl
  have hlen := fun ty => (show MapIs KPair w7.drew w4.heap.size (mpf [⟨w4.heap.size + 1, k, v⟩]) L from hm7).len (P := Try.prog) Try.underlying73 ty
  have ho := O6.out.turned ht7 S4.out
  have b0 := cell_of ho.2.2 0 _ rfl
  have b1 := cell_of ho.2.2 1 _ rfl
  have a0 := cell_of ho.2.1 0 _ rfl
  have a1 := cell_of ho.2.1 1 _ rfl
  have z0 := free_of ho.2.1 0
  have z1 := free_of ho.2.1 1
  have Z : Hid (CacheAt w7 (More3 S w) c room [⟨w4.heap.size + 1, k, v⟩] (some w4.heap.size) ∧ Turned S w w7 ∧ Own3 w k w7) :=
    ⟨hc7.widen fun b q => by rcases q with q | q; exact q; exact .inr q, ((((t3 (fun _ => False) w k).trans T4.out fun _ _ q => q).comp (T := S) TM.out fun i hi q => by rcases q with q | q; exact q.elim; exact q).comp (T := S) htt fun i hi q => by rcases q with q | q; exact q; rcases q with q | q; exact q; omega), ho⟩
  clear hh hupd P hr7 ht7 hc7 htt hm7 ho c1 k0 k1 f1 hl3 hl4 hl5 hl6 hne hmm
  go_wp2
  go_region
  go_wp2
  obtain ⟨e1, e2, e3, e4⟩ := put_ends (k := ⟨0, false⟩) Z.out.1 (Z.out.2.1.mono (S' := More3 S w) fun _ _ q => .inl q) (fun b q => by rcases q with q | q; exact .inl (hSb.out b q); exact .inr q) Z.out.2.2
  exact bodyPost_ret (v := .tuple #[.agg #[.int .i8 0, .bool false], .slice none 0 0, .bool false]) (by simp [results, Try.results15, go_sem, e3, e4]) rfl ⟨rfl, ⟨_, _, rfl, rfl, e1.drew⟩, (e2.mono fun i hi q => by rcases q with q | q; exact q; omega).draw⟩

set_option maxHeartbeats 1000000 in
theorem put_full0 {c : Nat} {room : Int} {S : Nat → Prop} {k : Pr} {v : Sv} {w : World} (h : CacheAt w S c room [] none) (hSb : Hid (∀ b, S b → b < w.heap.size)) (hkr : 0 ≤ k.a ∧ k.a ≤ 15) (hroom : room < ((0 + 1 : Nat) : Int)) :
    Calls Try.prog 15 #[pt c, .agg #[.int .i8 k.a, .bool k.t], sv v] w fun e w' => (∃ (nd e0 : Nd) (t : List Nd) (w4b : Nat), nd.k = k ∧ nd.v = v ∧ [nd] = e0 :: t ∧ e = .returned (.tuple #[.agg #[.int .i8 e0.k.a, .bool e0.k.t], sv e0.v, .bool true]) ∧ CacheAt w' (More3 S w) c room t (some w4b)) ∧ Turned S w w' := by
  have q73 : ∀ (w : World) (r : Option Nat), (binOp .eql 73 (.map r) (.map none)).run Try.prog w = .ok (.bool r.isNone) w := fun w r => run_eql_map_nil w _ _ _ r Try.underlying73
  have h3 := h.keep (t3 _ w k)
  have hf := find_none h3 hkr (by simp)
  have H3 : Hid (CacheAt (W3 w k) S c room [] none) := h3
  have HK : Hid ((∀ n ∈ ([] : List Nd), n.k ≠ k) ∧ (0 ≤ k.a ∧ k.a ≤ 15)) := ⟨by simp, hkr⟩
  have hmm := @run_makeMap Try.prog
  obtain ⟨L, hL⟩ : ∃ L, L = 0 + 1 := ⟨_, rfl⟩
  have hLr : room < (L : Int) := by rw [hL]; exact hroom
  have HL : Hid (L = 0 + 1) := hL
  clear h h3 hkr hroom hL
  go_enter Try.func15, Try.ntmps15
  go_wp2_with fail
  refine hf.mono ?_
  rintro e w4 ⟨rfl, ht4⟩
  have T4 : Hid (Turned (fun _ => False) (W3 w k) w4) := ht4
  have h4 := H3.out.keep ht4
  have ho4 : Own3 w k w4 := (own3 w k).turned ht4 fun b q => q.elim
  have hS4s : w.heap.size + 3 ≤ w4.heap.size := by have := lt_of_block ho4.2.2; omega
  have hcS : S c := h4.2.2.2.1 c (.inl rfl)
  have hcw : c < w.heap.size := hSb.out c hcS
  have c1 := cell_of h4.1.1 1 _ rfl
  have f1 := free_of h4.1.1 1
  have hM := makes (w := w) h4 hS4s hcw
  have tM : Turned S w4 ((w4.setCell ⟨c, 1, none⟩ (.map (some w4.heap.size))).alloc (.map #[] 0)) := ((Turned.refl _ _).set (p := ⟨c, 1, none⟩) hcS _).new _
  have hoM : Own3 w k ((w4.setCell ⟨c, 1, none⟩ (.map (some w4.heap.size))).alloc (.map #[] 0)) := ho4.turned tM fun b q => .inl (hSb.out b q)
  have k0 := cell_of ho4.1 0 _ rfl
  have k1 := cell_of ho4.1 1 _ rfl
  have hne : ¬ w.heap.size = c := by omega
  have hl5 : c < w4.heap.size := by omega
  have hl6 : w.heap.size < w4.heap.size := by omega
  have hsM : ((w4.setCell ⟨c, 1, none⟩ (.map (some w4.heap.size))).alloc (.map #[] 0)).heap.size = w4.heap.size + 1 := by simp
  have hl3 : c < w4.heap.size + 1 := by omega
  have hl4 : w.heap.size < w4.heap.size + 1 := by omega
  have hm5 : MapIs KPair (((w4.setCell ⟨c, 1, none⟩ (.map (some w4.heap.size))).alloc (.map #[] 0)).alloc (nb k v)).drew w4.heap.size (mpf []) 0 := hM.2.1.2.congr (by rw [heap_drew, (MapKept.heap_alloc ((w4.setCell ⟨c, 1, none⟩ (.map (some w4.heap.size))).alloc (.map #[] 0)) _).2 _ hM.2.1.2.lt]) fun _ => rfl
  obtain ⟨w6, hupd, hm6, ht6, -⟩ := hm5.update keyInt Try.underlying73 (kpair HK.out.2) (pt (w4.heap.size + 1))
  unfold kv at hupd
  have hT1 : Turned (fun _ => False) ((w4.setCell ⟨c, 1, none⟩ (.map (some w4.heap.size))).alloc (.map #[] 0)) (((w4.setCell ⟨c, 1, none⟩ (.map (some w4.heap.size))).alloc (.map #[] 0)).alloc (nb k v)).drew := (Turned.alloc _ _ _).draw
  have hn1 : NdIs (((w4.setCell ⟨c, 1, none⟩ (.map (some w4.heap.size))).alloc (.map #[] 0)).alloc (nb k v)).drew ⟨w4.heap.size + 1, k, v⟩ (.pointer none) (.pointer none) := by
    have := Go.Mine.heap_alloc_new ((w4.setCell ⟨c, 1, none⟩ (.map (some w4.heap.size))).alloc (.map #[] 0)) (nb k v)
    rw [hsM] at this
    exact this
  have P : Hid (∀ w7, _) := fun w7 => put_hang (w3 := w7) (N := w.heap.size + 3) (nd := ⟨w4.heap.size + 1, k, v⟩) hM HK.out.1 HK.out.2 hsM.symm (by omega) hT1 hn1 hm6 rfl ht6
  have hh := hang_ring c _ _ _ [] ⟨w4.heap.size + 1, k, v⟩ w6 (P.out w6).1 (P.out w6).2.1 (P.out w6).2.2.1
  have O6 : Hid (Own3 w k w6) := ((hoM.turned hT1 fun b q => q.elim).turned ht6 fun b q => by subst q; exact .inr hS4s)
  have TM : Hid (Turned S w4 ((w4.setCell ⟨c, 1, none⟩ (.map (some w4.heap.size))).alloc (.map #[] 0))) := tM
  have HC : Hid (c < w.heap.size) := hcw
  have S4 : Hid (∀ b, RingSet c ([] ++ [(⟨w4.heap.size + 1, k, v⟩ : Nd)]) b → b < w.heap.size ∨ w.heap.size + 3 ≤ b) := fun b hb => by
    simp only [RingSet, List.nil_append, List.map_cons, List.map_nil, List.mem_singleton] at hb
    rcases hb with hb | hb
    · subst hb; exact .inl hcw
    · exact .inr (by omega)
  clear hf ht4 h4 ho4 hm5 hm6 ht6 hT1 hn1 hM tM hoM hcS hsM
  go_wp2
  go_region
  go_wp2_with fail
  refine hh.mono ?_
  rintro e w7 ⟨rfl, hr7, ht7, -⟩
  obtain ⟨hc7, htt, hm7⟩ := (P.out w7).2.2.2 hr7 ht7
  rw [List.nil_append] at hr7 hc7 hm7
  rw [show ([(⟨w4.heap.size + 1, k, v⟩ : Nd)]).length = L by rw [HL.out]; simp] at hm7
  have ho := O6.out.turned ht7 S4.out
  obtain ⟨e0, t, het⟩ : ∃ e0 t, [(⟨w4.heap.size + 1, k, v⟩ : Nd)] = e0 :: t := ⟨_, _, rfl⟩
  rw [het] at hr7 hc7 hm7
  have d0 := cell_of hr7.1 0 _ rfl
  have d1 := cell_of hr7.1 1 _ rfl
  have d2 : w7.cell? ⟨c, 2, none⟩ = some (pt e0.b) := cell_of hr7.1 2 _ rfl
  have n0 := cell_of hr7.2.1.1 0 _ rfl
  have n1 := cell_of hr7.2.1.1 1 _ rfl
  have hlen := fun ty => (show MapIs KPair w7.drew w4.heap.size (mpf (e0 :: t)) L from hm7).len (P := Try.prog) Try.underlying73 ty
  have hdr := drop_some (l1 := []) (hc7.widen (T := More3 S w) fun b q => by rcases q with q | q; exact q; exact .inr q).drew
  have ET : Hid ([(⟨w4.heap.size + 1, k, v⟩ : Nd)] = e0 :: t) := het
  have Z : Hid (Turned S w w7 ∧ Own3 w k w7) := ⟨(((t3 (fun _ => False) w k).trans T4.out fun _ _ q => q).comp (T := S) TM.out fun i hi q => by rcases q with q | q; exact q.elim; exact q).comp (T := S) htt fun i hi q => by rcases q with q | q; exact q; rcases q with q | q; exact q; omega, ho⟩
  clear hh hupd P hr7 ht7 hc7 htt hm7 ho c1 k0 k1 f1 hl3 hl4 hl5 hl6 hne hmm het
  go_wp2
  go_region
  go_wp2_with (go_at_call 36; (with_reducible refine hdr.mono ?_); rintro e w8 ⟨rfl, hc8, ht8, hn8⟩)
  have hm3 : ∀ b, (S b ∨ w.heap.size + 3 ≤ b) → b < w.heap.size ∨ w.heap.size + 3 ≤ b := fun b q => by rcases q with q | q; exact .inl (hSb.out b q); exact .inr q
  have ho8 := (Z.out.2.turned (Turned.drew (fun _ => False) _) fun b q => q.elim).turned ht8 hm3
  have x0 := cell_of hn8 0 _ rfl
  have x1 := cell_of hn8 1 _ rfl
  have x2 := cell_of hn8 2 _ rfl
  have a0 := cell_of ho8.2.1 0 _ rfl
  have a1 := cell_of ho8.2.1 1 _ rfl
  have z0 := free_of ho8.2.1 0
  have z1 := free_of ho8.2.1 1
  have Z8 : Hid (CacheAt w8 (More3 S w) c room t (some w4.heap.size) ∧ Turned (More3 S w) w w8 ∧ Own3 w k w8) :=
    ⟨hc8, Turned.comp (T := More3 S w) (Z.out.1.draw) ht8 fun i hi q => by rcases q with q | q; exact .inl q; exact q, ho8⟩
  clear hdr hc8 ht8 hn8 hm3 ho8 n0 n1 d0 d1 d2 hlen
  go_region
  go_wp2
  obtain ⟨e1, e2, e3, e4⟩ := put_ends (k := e0.k) Z8.out.1 Z8.out.2.1 (fun b q => by rcases q with q | q; exact .inl (hSb.out b q); exact .inr q) Z8.out.2.2
  exact bodyPost_ret (v := .tuple #[.agg #[.int .i8 e0.k.a, .bool e0.k.t], sv e0.v, .bool true]) (by simp [results, Try.results15, go_sem, e3, e4]) rfl ⟨⟨⟨w4.heap.size + 1, k, v⟩, e0, t, _, rfl, rfl, ET.out, rfl, e1.drew⟩, (e2.mono fun i hi q => by rcases q with q | q; exact q; omega).draw⟩

end Go.Proofs.Ytbhafcmdmpebiaa.Pair
