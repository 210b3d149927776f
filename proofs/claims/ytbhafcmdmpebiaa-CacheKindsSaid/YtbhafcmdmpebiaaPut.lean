/- Drop and Put on the cache of ints by ints. -/
import Derived.Test.YtbhafcmdmpebiaaCache
namespace Go.Proofs.Ytbhafcmdmpebiaa
open Go.RowKit Go.Mine

theorem drop_none {c : Nat} {room : Int} {l : List Nd} {mo : Option Nat} {S : Nat → Prop} {k : Int} {w : World} (h : CacheAt w S c room l mo) (hk : ∀ n ∈ l, n.k ≠ k) :
    Calls Try.prog 23 #[pt c, .int .i64 k] w fun e w' => e = .returned (.bool false) ∧ w = w' := by
  have hf := find_none h hk
  clear h hk
  go_enter Try.func23, Try.ntmps23
  go_wp2_with (go_at_call 30; refine hf.mono ?_; rintro e w' ⟨rfl, rfl⟩)
  go_ret
  exact ⟨rfl, rfl⟩

theorem mpf_other {l : List Nd} {key : Value} (h : ¬ ∃ k, key = .int .i64 k) : mpf l key = none := by
  unfold mpf
  split
  · exact absurd ⟨_, rfl⟩ h
  · rfl

open Classical in
theorem mpf_del {l1 l2 : List Nd} {n : Nd} (h : ((l1 ++ n :: l2).map (·.k)).Nodup) (key : Value) :
    mpf (l1 ++ l2) key = if key = .int .i64 n.k then none else mpf (l1 ++ n :: l2) key := by
  have hn : ∀ m ∈ l1 ++ l2, m.k ≠ n.k := by
    have hp : ((l1 ++ n :: l2).map (·.k)).Perm (n.k :: (l1 ++ l2).map (·.k)) := by
      simp only [List.map_append, List.map_cons]; exact List.perm_middle
    have := (List.nodup_cons.1 (hp.nodup_iff.1 h)).1
    intro m hm q
    exact this (List.mem_map.2 ⟨m, hm, q⟩)
  split
  · subst_vars; exact mpf_none hn
  · rename_i hk
    by_cases hi : ∃ k, key = .int .i64 k
    · obtain ⟨k, rfl⟩ := hi
      have hk' : n.k ≠ k := fun z => hk (by rw [z])
      simp only [mpf, List.find?_append, List.find?_cons]
      rw [show (decide (n.k = k)) = false by simpa using hk']
    · rw [mpf_other hi, mpf_other hi]

theorem CacheAt.del {w w1 w2 : World} {S : Nat → Prop} {c bm : Nat} {room : Int} {l1 l2 : List Nd} {n : Nd} (h : CacheAt w S c room (l1 ++ n :: l2) (some bm))
    (hr : Ring w1 c (.int .i64 room) (.map (some bm)) (l1 ++ l2)) {m : Value → Option Value} {sz : Nat}
    (hm : MapIs KInt w2 bm m sz) (hme : ∀ key, mpf (l1 ++ l2) key = m key) (hsz : sz = (l1 ++ l2).length) (ht2 : Turned (· = bm) w1 w2) : CacheAt w2 S c room (l1 ++ l2) (some bm) := by
  obtain ⟨h1, h2, h3, h4, h5⟩ := h
  have hsub : ∀ b, RingSet c (l1 ++ l2) b → RingSet c (l1 ++ n :: l2) b := by
    intro b hb
    simp only [RingSet, List.map_append, List.map_cons, List.mem_append, List.mem_cons] at hb ⊢
    rcases hb with hb | hb | hb <;> simp [hb]
  have hbm : ∀ b, RingSet c (l1 ++ l2) b → ¬ b = bm := fun b hb q => h2.1 (q ▸ hsub b hb)
  refine ⟨⟨hr.1.turned ht2 (hbm c (.inl rfl)), Seg.turned ht2 hr.2.1 fun m hm => hbm m.b (.inr (List.mem_map.2 ⟨m, hm, rfl⟩)), hr.2.2⟩, ⟨fun q => h2.1 (hsub _ q), ?_⟩, ?_, fun b hb => h4 b (hsub b hb), h5⟩
  · rw [← hsz]; exact hm.congr rfl hme
  · refine List.Nodup.sublist ?_ h3
    simp

set_option maxHeartbeats 1000000 in
theorem drop_some {c bm : Nat} {room : Int} {l1 l2 : List Nd} {n : Nd} {S : Nat → Prop} {w : World} (h : CacheAt w S c room (l1 ++ n :: l2) (some bm)) :
    Calls Try.prog 23 #[pt c, .int .i64 n.k] w fun e w' => e = .returned (.bool true) ∧ CacheAt w' S c room (l1 ++ l2) (some bm) ∧ Turned S w w' ∧ NdIs w' n (.pointer none) (.pointer none) := by
  have hf := find_some h
  have hu := unhang_ring c _ _ l1 l2 n w h.1
  have hmap := h.2.1
  have hmT : ∀ w1, Turned (RingSet c (l1 ++ n :: l2)) w w1 → MapIs KInt w1 bm (mpf (l1 ++ n :: l2)) (l1 ++ n :: l2).length := fun w1 ht => hmap.2.congr (ht.block bm hmap.2.lt hmap.1) fun _ => rfl
  have hH : ∀ w1 w2 (m : Value → Option Value) (sz : Nat), Turned (RingSet c (l1 ++ n :: l2)) w w1 → Ring w1 c (.int .i64 room) (.map (some bm)) (l1 ++ l2) → NdIs w1 n (.pointer none) (.pointer none) → MapIs KInt w2 bm m sz →
      (∀ key, mpf (l1 ++ l2) key = m key) → sz = (l1 ++ l2).length → Turned (· = bm) w1 w2 → CacheAt w2 S c room (l1 ++ l2) (some bm) ∧ Turned S w w2 ∧ NdIs w2 n (.pointer none) (.pointer none) := by
    intro w1 w2 m sz ht1 hr1 hn1 hm hme hsz ht2
    refine ⟨h.del hr1 hm hme hsz ht2, ht1.comp ht2 fun i _ q => ?_, hn1.turned ht2 fun q => hmap.1 (by simp [RingSet, ← q])⟩
    rcases q with q | q
    · exact h.2.2.2.1 i q
    · exact h.2.2.2.2 i (by rw [q])
  have hkn := h.2.2.1
  have hms : (mpf (l1 ++ n :: l2) (.int .i64 n.k)).isSome = true := by rw [mpf_some hkn]; rfl
  clear h hmap
  go_enter Try.func23, Try.ntmps23
  go_wp2_with (go_at_call 30; refine hf.mono ?_; rintro e w' ⟨rfl, rfl⟩)
  go_at_call 31
  refine hu.mono ?_
  rintro e w1 ⟨rfl, hr1, hn1, ht1, -⟩
  have hc1 := cell_of hr1.1 1 _ rfl
  have hm1 := hmT w1 ht1
  go_wp2_with (at_delete; refine wpList_delete rfl _ _ 59 3 rfl 60 keyInt Try.underlying59 hm1 rfl (.int .i64 n.k) rfl (kk _) ?_; intro w2 hm2 ht2 _)
  have hfin := hH w1 w2 _ _ ht1 hr1 hn1 hm2 (fun key => mpf_del hkn key) (by rw [if_pos hms]; simp) ht2
  go_ret
  exact ⟨rfl, hfin⟩

end Go.Proofs.Ytbhafcmdmpebiaa
