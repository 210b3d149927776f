/- The cache of ints by ints: each method's contract over the list of keys and values, the eldest first. -/
import Derived.Test.YtbhafcmdmpebiaaPut2
import Derived.Laws.AppendOwn
namespace Go.Proofs.Ytbhafcmdmpebiaa
open Go.RowKit Go.Mine

theorem CacheAt.setv {w : World} {S : Nat → Prop} {c : Nat} {room : Int} {l1 l2 : List Nd} {n : Nd} {mo : Option Nat} (v : Int) (h : CacheAt w S c room (l1 ++ n :: l2) mo) :
    CacheAt (w.setCell ⟨n.b, 1, none⟩ (.int .i64 v)) S c room (l1 ++ ⟨n.b, n.k, v⟩ :: l2) mo := by
  obtain ⟨⟨h1, h2, h3⟩, h4, h5, h6, h7⟩ := h
  have hbs : (l1 ++ (⟨n.b, n.k, v⟩ : Nd) :: l2).map (·.b) = (l1 ++ n :: l2).map (·.b) := by simp
  have hks : (l1 ++ (⟨n.b, n.k, v⟩ : Nd) :: l2).map (·.k) = (l1 ++ n :: l2).map (·.k) := by simp
  have hset : ∀ b, RingSet c (l1 ++ (⟨n.b, n.k, v⟩ : Nd) :: l2) b ↔ RingSet c (l1 ++ n :: l2) b := by intro b; simp only [RingSet, hbs]
  have ht : Turned (· = n.b) w (w.setCell ⟨n.b, 1, none⟩ (.int .i64 v)) := Turned.setCell (S := (· = n.b)) (p := ⟨n.b, 1, none⟩) rfl _
  have hd0 := h3
  have hperm : (c :: (l1 ++ n :: l2).map (·.b)).Perm (n.b :: c :: (l1 ++ l2).map (·.b)) := by
    refine List.Perm.trans ?_ (List.Perm.swap _ _ _)
    refine List.Perm.cons _ ?_
    simp only [List.map_append, List.map_cons]
    exact List.perm_middle
  have hnn := (List.nodup_cons.1 (hperm.nodup_iff.1 h3)).1
  simp only [List.mem_cons, List.map_append, List.mem_append, not_or] at hnn
  rw [seg_app] at h2
  obtain ⟨g1, g2, g3⟩ := h2
  refine ⟨⟨?_, ?_, by rw [hbs]; exact h3⟩, ?_, by rw [hks]; exact h5, fun b hb => h6 b ((hset b).1 hb), h7⟩
  · have := h1.turned ht (fun q => hnn.1 q.symm)
    simpa only [List.append_assoc, List.cons_append, List.nil_append, List.append_nil, hd_app, hd_cons, hd_nil, lst_app, lst_cons, lst_nil, pto_some] using this
  · rw [seg_app]
    refine ⟨Seg.turned ht (by simpa only [hd_cons] using g1) fun m hm q => hnn.2.1 (List.mem_map.2 ⟨m, hm, q⟩), ?_, Seg.turned ht g3 fun m hm q => hnn.2.2 (List.mem_map.2 ⟨m, hm, q⟩)⟩
    have := Go.Mine.heap_setCell_same (o := 1) g2 (.int .i64 v)
    simpa [NdIs, Blk] using this
  · cases mo with
    | none => simp [MapOf] at h4
    | some bm =>
      refine ⟨fun q => h4.1 ((hset bm).1 q), ?_⟩
      have hne : ¬ bm = n.b := fun q => h4.1 (by simp [RingSet, q])
      have : (l1 ++ (⟨n.b, n.k, v⟩ : Nd) :: l2).length = (l1 ++ n :: l2).length := by simp
      rw [this]
      refine h4.2.congr (ht.block bm h4.2.lt hne) fun key => ?_
      by_cases hi : ∃ k, key = .int .i64 k
      · obtain ⟨k, rfl⟩ := hi
        rcases split_key l1 k with hk | ⟨a, m, b, rfl, rfl⟩
        · have e1 : l1.find? (fun n => decide (n.k = k)) = none := by rw [List.find?_eq_none]; intro n hn; simpa using hk n hn
          simp only [mpf, List.find?_append, e1, List.find?_cons, Option.none_or]
          cases (decide (n.k = k)) <;> rfl
        · have e1 : (a ++ m :: b).find? (fun n => decide (n.k = m.k)) ≠ none := by simp
          simp only [mpf, List.find?_append]
          cases h : (a.find? fun n => decide (n.k = m.k)).or ((m :: b).find? fun n => decide (n.k = m.k)) with
          | some x => rfl
          | none => simp at h
      · rw [mpf_other hi, mpf_other hi]

set_option maxHeartbeats 1000000 in
theorem put_hit {c : Nat} {room : Int} {l1 l2 : List Nd} {n : Nd} {mo : Option Nat} {S : Nat → Prop} {v : Int} {w : World} (h : CacheAt w S c room (l1 ++ n :: l2) mo) :
    Calls Try.prog 9 #[pt c, .int .i64 n.k, .int .i64 v] w fun e w' => e = .returned (.tuple #[.int .i64 0, .int .i64 0, .bool false]) ∧ CacheAt w' S c room (l1 ++ l2 ++ [⟨n.b, n.k, v⟩]) mo ∧ Turned S w w' := by
  have hf := find_some h
  have h1 := h.setv v
  obtain ⟨p, q, hn⟩ := NdOf h.1
  have n1 := cell_of hn 1 _ rfl
  have f1 := free_of hn 1
  have hS : S n.b := h.2.2.2.1 n.b (by simp [RingSet])
  clear h hn
  have hu := unhang_ring c _ _ l1 l2 ⟨n.b, n.k, v⟩ _ h1.1
  have hnew := ring_new h1.1
  have hH : ∀ w1 w2, Turned (RingSet c (l1 ++ ⟨n.b, n.k, v⟩ :: l2)) (w.setCell ⟨n.b, 1, none⟩ (.int .i64 v)) w1 → Ring w2 c (.int .i64 room) (.map mo) (l1 ++ l2 ++ [⟨n.b, n.k, v⟩]) → Turned (RingSet c (l1 ++ l2 ++ [⟨n.b, n.k, v⟩])) w1 w2 →
      CacheAt w2 S c room (l1 ++ l2 ++ [⟨n.b, n.k, v⟩]) mo ∧ Turned S w w2 := by
    intro w1 w2 ht1 hr2 ht2
    have ht := ht1.trans ht2 fun i _ q => (ringSet_perm (perm_mid l1 l2 ⟨n.b, n.k, v⟩) i).1 q
    exact ⟨h1.perm (perm_mid l1 l2 _) hr2 ht, (Turned.setCell (S := S) hS _).trans ht fun i _ q => h1.2.2.2.1 i q⟩
  clear h1
  go_enter Try.func9, Try.ntmps9
  go_wp2_with (go_at_call 30; refine hf.mono ?_; rintro e w' ⟨rfl, rfl⟩)
  go_at_call 31
  refine hu.mono ?_
  rintro e w1 ⟨rfl, hr1, hn1, ht1, -⟩
  go_wp2_with fail
  go_at_call 32
  refine (hang_ring c _ _ _ _ ⟨n.b, n.k, v⟩ w1 hr1 hn1 hnew).mono ?_
  rintro e w2 ⟨rfl, hr2, ht2, -⟩
  obtain ⟨hc2, htt⟩ := hH w1 w2 ht1 hr2 ht2
  go_wp2_with fail
  go_ret3
  exact ⟨rfl, hc2, htt⟩

theorem new_any (room : Int) (w : World) :
    Calls Try.prog 8 #[.int .i64 room] w fun e w' => e = .returned (pt w.heap.size) ∧ CacheAt w' (fun b => b = w.heap.size) w.heap.size (min (max room 0) 4096) [] none ∧ Turned (fun _ => False) w w' := by
  have hx : ∀ r, r = min (max room 0) 4096 → CacheAt (w.alloc (.cells #[.int .i64 r, .map none, .pointer none, .pointer none] 62)) (fun b => b = w.heap.size) w.heap.size (min (max room 0) 4096) [] none ∧ Turned (fun _ => False) w (w.alloc (.cells #[.int .i64 r, .map none, .pointer none, .pointer none] 62)) := by
    rintro r rfl
    exact ⟨⟨⟨heap_alloc_new _ _, trivial, by simp⟩, rfl, by simp, fun b hb => by simpa [RingSet] using hb, fun b hb => by cases hb⟩, Turned.alloc _ _ _⟩
  go_enter Try.func8, Try.ntmps8
  go_wp2
  all_goals (go_ret; refine ⟨rfl, hx _ ?_⟩; omega)

end Go.Proofs.Ytbhafcmdmpebiaa
