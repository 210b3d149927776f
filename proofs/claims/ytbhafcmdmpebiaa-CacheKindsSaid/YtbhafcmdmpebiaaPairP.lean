/- Put on the cache of pairs by lists. -/
import Derived.Test.YtbhafcmdmpebiaaPairW
namespace Go.Proofs.Ytbhafcmdmpebiaa.Pair
open Go.RowKit Go.Mine

theorem CacheAt.setv {w : World} {S : Nat → Prop} {c : Nat} {room : Int} {l1 l2 : List Nd} {n : Nd} {mo : Option Nat} (v : Sv) (h : CacheAt w S c room (l1 ++ n :: l2) mo) :
    CacheAt (w.setCell ⟨n.b, 2, none⟩ (sv v)) S c room (l1 ++ ⟨n.b, n.k, v⟩ :: l2) mo := by
  obtain ⟨⟨h1, h2, h3⟩, h4, h5, h6, h7, h8⟩ := h
  have hbs : (l1 ++ (⟨n.b, n.k, v⟩ : Nd) :: l2).map (·.b) = (l1 ++ n :: l2).map (·.b) := by simp
  have hks : (l1 ++ (⟨n.b, n.k, v⟩ : Nd) :: l2).map (·.k) = (l1 ++ n :: l2).map (·.k) := by simp
  have hset : ∀ b, RingSet c (l1 ++ (⟨n.b, n.k, v⟩ : Nd) :: l2) b ↔ RingSet c (l1 ++ n :: l2) b := by intro b; simp only [RingSet, hbs]
  have ht : Turned (· = n.b) w (w.setCell ⟨n.b, 2, none⟩ (sv v)) := Turned.setCell (S := (· = n.b)) (p := ⟨n.b, 2, none⟩) rfl _
  have hperm : (c :: (l1 ++ n :: l2).map (·.b)).Perm (n.b :: c :: (l1 ++ l2).map (·.b)) := by
    refine List.Perm.trans ?_ (List.Perm.swap _ _ _)
    refine List.Perm.cons _ ?_
    simp only [List.map_append, List.map_cons]
    exact List.perm_middle
  have hnn := (List.nodup_cons.1 (hperm.nodup_iff.1 h3)).1
  simp only [List.mem_cons, List.map_append, List.mem_append, not_or] at hnn
  rw [seg_app] at h2
  obtain ⟨g1, g2, g3⟩ := h2
  refine ⟨⟨?_, ?_, by rw [hbs]; exact h3⟩, ?_, by rw [hks]; exact h5, fun b hb => h6 b ((hset b).1 hb), h7, fun m hm => ?_⟩
  · have := h1.turned ht (fun q => hnn.1 q.symm)
    simpa only [List.append_assoc, List.cons_append, List.nil_append, List.append_nil, hd_app, hd_cons, hd_nil, lst_app, lst_cons, lst_nil, pto_some] using this
  · rw [seg_app]
    refine ⟨Seg.turned ht (by simpa only [hd_cons] using g1) fun m hm q => hnn.2.1 (List.mem_map.2 ⟨m, hm, q⟩), ?_, Seg.turned ht g3 fun m hm q => hnn.2.2 (List.mem_map.2 ⟨m, hm, q⟩)⟩
    have := Go.Mine.heap_setCell_same (o := 2) g2 (sv v)
    simpa [NdIs, Blk] using this
  · cases mo with
    | none => simp [MapOf] at h4
    | some bm =>
      refine ⟨fun q => h4.1 ((hset bm).1 q), ?_⟩
      have hne : ¬ bm = n.b := fun q => h4.1 (by simp [RingSet, q])
      have : (l1 ++ (⟨n.b, n.k, v⟩ : Nd) :: l2).length = (l1 ++ n :: l2).length := by simp
      rw [this]
      refine h4.2.congr (ht.block bm h4.2.lt hne) fun key => ?_
      by_cases hi : ∃ k, key = kv k
      · obtain ⟨k, rfl⟩ := hi
        rcases split_key l1 k with hk | ⟨a, m, b, rfl, rfl⟩
        · have e1 : l1.find? (fun n => decide (n.k = k)) = none := by rw [List.find?_eq_none]; intro n hn; simpa using hk n hn
          simp only [mpf_kv, List.find?_append, e1, List.find?_cons, Option.none_or]
          cases decide (n.k = k) <;> rfl
        · simp only [mpf_kv, List.find?_append]
          cases h : (a.find? fun n => decide (n.k = m.k)).or ((m :: b).find? fun n => decide (n.k = m.k)) with
          | some x => rfl
          | none => simp at h
      · rw [mpf_other hi, mpf_other hi]
  · rcases List.mem_append.1 hm with q | q
    · exact h8 m (by simp [q])
    · rcases List.mem_cons.1 q with q | q
      · subst q; exact h8 n (by simp)
      · exact h8 m (by simp [q])

/-- the world in which Put begins its work: the key's block and two zero pairs laid -/
abbrev W3 (w : World) (k : Pr) : World := ((w.alloc (kb k)).alloc (kb ⟨0, false⟩)).alloc (kb ⟨0, false⟩)
theorem t3 (S : Nat → Prop) (w : World) (k : Pr) : Turned S w (W3 w k) := ((Turned.alloc S w _).new _).new _

/-- the three blocks of a Put's own -/
def Own3 (w : World) (k : Pr) (w' : World) : Prop := Blk w' w.heap.size #[.int .i8 k.a, .bool k.t] 38 ∧ Blk w' (w.heap.size + 1) #[.int .i8 0, .bool false] 38 ∧ Blk w' (w.heap.size + 2) #[.int .i8 0, .bool false] 38
theorem own3 (w : World) (k : Pr) : Own3 w k (W3 w k) := by
  have s1 : (w.alloc (kb k)).heap.size = w.heap.size + 1 := by simp
  have s2 : ((w.alloc (kb k)).alloc (kb ⟨0, false⟩)).heap.size = w.heap.size + 2 := by simp
  refine ⟨Go.Mine.heap_alloc_old (Go.Mine.heap_alloc_old (Go.Mine.heap_alloc_new w _)), ?_, ?_⟩
  · have := Go.Mine.heap_alloc_new (w.alloc (kb k)) (kb ⟨0, false⟩)
    rw [s1] at this
    exact Go.Mine.heap_alloc_old this
  · have := Go.Mine.heap_alloc_new ((w.alloc (kb k)).alloc (kb ⟨0, false⟩)) (kb ⟨0, false⟩)
    rw [s2] at this
    exact this
theorem Own3.turned {w w1 w2 : World} {k : Pr} {S : Nat → Prop} (h : Own3 w k w1) (ht : Turned S w1 w2) (hS : ∀ b, S b → b < w.heap.size ∨ w.heap.size + 3 ≤ b) : Own3 w k w2 := by
  obtain ⟨h1, h2, h3⟩ := h
  exact ⟨h1.turned ht fun q => by rcases hS _ q with q | q <;> omega, h2.turned ht fun q => by rcases hS _ q with q | q <;> omega, h3.turned ht fun q => by rcases hS _ q with q | q <;> omega⟩

/-- the key that is answered, stored into its block -/
abbrev Wout (w w6 : World) (k : Pr) : World := (w6.setCell ⟨w.heap.size + 1, 0, none⟩ (.int .i8 k.a)).setCell ⟨w.heap.size + 1, 1, none⟩ (.bool k.t)
theorem put_ends {w w6 : World} {S : Nat → Prop} {c : Nat} {room : Int} {l : List Nd} {mo : Option Nat} {k k0 : Pr} (h : CacheAt w6 S c room l mo) (ht : Turned S w w6) (hS : ∀ b, S b → b < w.heap.size ∨ w.heap.size + 3 ≤ b) (ho : Own3 w k0 w6) :
    CacheAt (Wout w w6 k) S c room l mo ∧ Turned S w (Wout w w6 k) ∧ (Wout w w6 k).cell? ⟨w.heap.size + 1, 0, none⟩ = some (.int .i8 k.a) ∧ (Wout w w6 k).cell? ⟨w.heap.size + 1, 1, none⟩ = some (.bool k.t) := by
  have h1 : Turned (· = w.heap.size + 1) w6 (Wout w w6 k) :=
    ((Turned.refl _ _).set (S := (· = w.heap.size + 1)) (p := ⟨w.heap.size + 1, 0, none⟩) rfl _).set (S := (· = w.heap.size + 1)) (p := ⟨w.heap.size + 1, 1, none⟩) rfl _
  have hb : (Wout w w6 k).heap[w.heap.size + 1]? = some (.cells #[.int .i8 k.a, .bool k.t] 38 (0, 0)) := by
    have := Go.Mine.heap_setCell_same (o := 1) (Go.Mine.heap_setCell_same (o := 0) ho.2.1 (.int .i8 k.a)) (.bool k.t)
    simpa using this
  refine ⟨h.turned h1 fun b q z => by have := hS b q; omega, ht.comp h1 fun i hi q => ?_, cell_of hb 0 _ rfl, cell_of hb 1 _ rfl⟩
  rcases q with q | q
  · exact q
  · omega

set_option maxHeartbeats 1000000 in
theorem put_hit {c : Nat} {room : Int} {l1 l2 : List Nd} {n : Nd} {mo : Option Nat} {S : Nat → Prop} {v : Sv} {w : World} (h : CacheAt w S c room (l1 ++ n :: l2) mo) (hSb : Hid (∀ b, S b → b < w.heap.size)) :
    Calls Try.prog 15 #[pt c, .agg #[.int .i8 n.k.a, .bool n.k.t], sv v] w fun e w' => e = .returned (.tuple #[.agg #[.int .i8 0, .bool false], .slice none 0 0, .bool false]) ∧ CacheAt w' S c room (l1 ++ l2 ++ [⟨n.b, n.k, v⟩]) mo ∧ Turned S w w' := by
  have h1 := h.keep (t3 _ w n.k)
  have hf := find_some h1
  have H : Hid (CacheAt w S c room (l1 ++ n :: l2) mo) := h
  have H1 : Hid (CacheAt (W3 w n.k) S c room (l1 ++ n :: l2) mo) := h1
  clear h h1
  go_enter Try.func15, Try.ntmps15
  go_wp2_with fail
  refine hf.mono ?_
  rintro e w4 ⟨rfl, ht4⟩
  have T4 : Hid (Turned (fun _ => False) (W3 w n.k) w4) := ht4
  have h4 := H1.out.keep ht4
  obtain ⟨p, q, hn⟩ := NdOf' h4
  have n2 := cell_of hn 2 _ rfl
  have f2 := free_of hn 2
  have h5 := h4.setv v
  have hu := unhang_ring c _ _ l1 l2 ⟨n.b, n.k, v⟩ _ h5.1
  have H5 : Hid (CacheAt _ S c room (l1 ++ ⟨n.b, n.k, v⟩ :: l2) mo) := h5
  have HN : Hid (S n.b) := h4.2.2.2.1 n.b (by simp [RingSet])
  clear hf ht4 h4 hn h5
  go_wp2_with fail
  refine hu.mono ?_
  rintro e w5 ⟨rfl, hr5, hn5, ht5, -⟩
  have T5 : Hid (Turned (RingSet c (l1 ++ ⟨n.b, n.k, v⟩ :: l2)) (w4.setCell ⟨n.b, 2, none⟩ (sv v)) w5) := ht5
  have hh := hang_ring c _ _ _ _ ⟨n.b, n.k, v⟩ w5 hr5 hn5 (ring_new H5.out.1)
  clear hu hr5 hn5 ht5
  go_wp2_with fail
  refine hh.mono ?_
  rintro e w6 ⟨rfl, hr6, ht6, -⟩
  have hset : ∀ b, RingSet c (l1 ++ (⟨n.b, n.k, v⟩ : Nd) :: l2) b → S b ∧ b < w.heap.size := fun b hb => by
    have hb' : RingSet c (l1 ++ n :: l2) b := by simpa [RingSet] using hb
    exact ⟨H.out.2.2.2.1 b hb', H.out.1.lt hb'⟩
  have hset6 : ∀ b, RingSet c (l1 ++ l2 ++ [(⟨n.b, n.k, v⟩ : Nd)]) b → S b ∧ b < w.heap.size := fun b hb => hset b ((ringSet_perm (perm_mid l1 l2 _) b).1 hb)
  have hnb : S n.b ∧ n.b < w.heap.size := hset n.b (by simp [RingSet])
  have ho : Own3 w n.k w6 := by
    refine Own3.turned (Own3.turned (Own3.turned (Own3.turned (own3 w n.k) T4.out fun b q => q.elim) (Turned.setCell (S := (· = n.b)) (p := ⟨n.b, 2, none⟩) rfl (sv v)) fun b q => ?_) T5.out fun b q => ?_) ht6 fun b q => ?_
    · subst q; exact .inl hnb.2
    · exact .inl (hset b q).2
    · exact .inl (hset6 b q).2
  have hc6 := H5.out.perm (perm_mid l1 l2 _) hr6 (T5.out.trans ht6 fun i _ q => (ringSet_perm (perm_mid l1 l2 _) i).1 q)
  have hT6 : Turned S w w6 := by
    refine Turned.comp (T := S) (Turned.comp (T := S) (Turned.comp (T := S) ((t3 (fun _ => False) w n.k).trans T4.out fun _ _ q => q) (Turned.setCell (S := (· = n.b)) (p := ⟨n.b, 2, none⟩) rfl (sv v)) fun i hi q => ?_) T5.out fun i hi q => ?_) ht6 fun i hi q => ?_
    · rcases q with q | q
      · exact q.elim
      · subst q; exact hnb.1
    · rcases q with q | q
      · exact q
      · exact (hset i q).1
    · rcases q with q | q
      · exact q
      · exact (hset6 i q).1
  have b0 := cell_of ho.2.2 0 _ rfl
  have b1 := cell_of ho.2.2 1 _ rfl
  have a0 := cell_of ho.2.1 0 _ rfl
  have a1 := cell_of ho.2.1 1 _ rfl
  have z0 := free_of ho.2.1 0
  have z1 := free_of ho.2.1 1
  have Z : Hid (CacheAt w6 S c room (l1 ++ l2 ++ [⟨n.b, n.k, v⟩]) mo ∧ Turned S w w6 ∧ Own3 w n.k w6) := ⟨hc6, hT6, ho⟩
  clear hh hr6 ht6 hset hset6 ho hc6 hT6 hnb
  go_wp2
  obtain ⟨e1, e2, e3, e4⟩ := put_ends (k := ⟨0, false⟩) Z.out.1 Z.out.2.1 (fun b q => .inl (hSb.out b q)) Z.out.2.2
  exact bodyPost_ret (v := .tuple #[.agg #[.int .i8 0, .bool false], .slice none 0 0, .bool false]) (by simp [results, Try.results15, go_sem, e3, e4]) rfl ⟨rfl, e1, e2⟩

end Go.Proofs.Ytbhafcmdmpebiaa.Pair
