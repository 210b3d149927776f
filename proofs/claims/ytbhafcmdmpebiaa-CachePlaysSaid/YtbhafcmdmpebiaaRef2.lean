/- The reference's Drop, Put, Get, Peek and New. -/
import Derived.Test.YtbhafcmdmpebiaaRef
namespace Go.Proofs.Ytbhafcmdmpebiaa
open Go.RowKit Go.Mine

theorem ref_drop_none {w : World} {S : Nat → Prop} {r : Nat} {room : Int} {kv : KV} {k : Int} (h : RefIs w S r room kv) (hlen : Hid (kv.length ≤ 100000)) (hk : ∀ x ∈ kv, x.1 ≠ k) :
    Calls Try.prog 40 #[pt r, .int .i64 k] w fun e w' => e = .returned (.bool false) ∧ w = w' := by
  have hf := ref_find_none h hlen hk
  clear h hlen hk
  go_enter Try.func40, Try.ntmps40
  go_wp2_with (go_at_call 46; (with_reducible refine hf.mono ?_); rintro e w' ⟨rfl, rfl⟩)
  go_ret
  exact ⟨rfl, rfl⟩

set_option maxHeartbeats 1000000 in
theorem ref_drop_some {w : World} {S : Nat → Prop} {r : Nat} {room : Int} {a b : KV} {k v : Int} (h : RefIs w S r room (a ++ (k, v) :: b)) (hlen : Hid ((a ++ (k, v) :: b).length ≤ 100000)) (hk : ∀ x ∈ a, x.1 ≠ k) :
    Calls Try.prog 40 #[pt r, .int .i64 k] w fun e w' => e = .returned (.bool true) ∧ RefIs w' (More S w) r room (a ++ b) ∧ Turned S w w' := by
  have hf := ref_find_some h hlen hk
  obtain ⟨L, h1, hS, h3⟩ := h
  have r1 := cell_of h1 1 _ rfl
  have hrw := lt_of_block h1
  have hl' : (a ++ (k, v) :: b).length = a.length + 1 + b.length := by simp; omega
  obtain ⟨v1, hr1, hv1⟩ := h3.run_to (P := Try.prog) Try.underlying49 info83 a.length .i64 a.length rfl (by omega)
  obtain ⟨v3, hr3, hv3⟩ := h3.run_from (P := Try.prog) Try.underlying49 info83 (a.length + 1) .i64 ((a.length : Int) + 1) rfl (by omega)
  rw [flat_take, List.take_left] at hv1
  rw [flat_drop, show (a ++ (k, v) :: b).drop (a.length + 1) = b by rw [← List.drop_drop, List.drop_left]; rfl, show (a ++ (k, v) :: b).length - (a.length + 1) = b.length by omega] at hv3
  obtain ⟨n, hn⟩ : ∃ n, n = a.length := ⟨_, rfl⟩
  rw [← hn] at hf hr1 hr3 hv1
  obtain ⟨m, hm⟩ : ∃ m, m = b.length := ⟨_, rfl⟩
  rw [← hm] at hv3
  have hn5 : n ≤ 100000 ∧ m ≤ 100000 := by have := hlen.out; omega
  obtain ⟨hn5, hm5⟩ := hn5
  have HN : Hid (n = a.length ∧ m = b.length) := ⟨hn, hm⟩
  have H1 : Hid (Blk w r #[.int .i64 room, L] 51) := h1
  have hs1 : Src Try.prog 2 49 v1 n (flat a) w := hv1.src Try.underlying49 (flat_one a)
  have hnil := Sl.nil w (fun _ => False) 83 2
  clear hk h1 hn hm hl' hv1 h3 hlen
  go_enter Try.func40, Try.ntmps40
  go_wp2_with (first | (go_at_call 46; (with_reducible refine hf.mono ?_); rintro e w' ⟨rfl, rfl⟩) | (at_builtin; refine wpList_append rfl _ _ 49 49 rfl hnil Try.underlying49 info83 rfl (by decide) rfl v1 rfl hs1 ?c1 ?c2 ?_))
  case c1 => unfold maxLen; omega
  case c2 => omega
  intro v2 w1 hv2 ht1
  have H1' : Hid (Blk w1 r #[.int .i64 room, L] 51) := H1.out.turned ht1 fun q => q
  have q1 := cell_of H1'.out 1 _ rfl
  have hs2 : Src Try.prog 2 49 v3 m (flat b) w1 := (hv3.turned ht1 fun _ _ q => q).src Try.underlying49 (flat_one b)
  have T1 : Hid (Turned (fun _ => False) w w1) := ht1
  clear ht1 hs1 r1 hf hr1 hnil hv3
  go_wp2_with (at_builtin; refine wpList_append rfl _ _ 49 49 rfl hv2 Try.underlying49 info83 rfl (by decide) rfl v3 rfl hs2 ?d1 ?d2 ?_)
  case d1 => unfold maxLen; omega
  case d2 => omega
  intro v4 w2 hv4 ht2
  obtain ⟨a4, cap4, rfl, -, -⟩ := hv4.value
  have hr2 : ¬ More (fun _ => False) w r := fun q => by rcases q with q | q; exact q; omega
  have H2 : Hid (Blk w2 r #[.int .i64 room, L] 51) := H1'.out.turned ht2 hr2
  have q3 := cell_of H2.out 1 _ rfl
  have q4 := free_of H2.out 1
  have V4 : Hid (Sl w2 (More (More (fun _ => False) w) w1) 83 2 _ (flat a ++ flat b) (n + m)) := hv4
  have T2 : Hid (Turned (More (fun _ => False) w) w1 w2) := ht2
  clear hs2 q1 ht2 hr2 hv4 hv2 hr3
  go_wp2
  go_ret
  have t1 := T1.out; have t2 := T2.out; have s1 := t1.size; have s2 := t2.size
  have hTw : Turned S w w2 := (t1.mono (S' := S) fun _ _ q => q.elim).comp t2 fun i hi q => by
    rcases q with q | q | q
    · exact q
    · exact q.elim
    · omega
  refine ⟨rfl, ⟨.slice a4 (n + m) cap4, ?_, .inl hS, ?_⟩, hTw.set hS _⟩
  · have := Go.Mine.heap_setCell_same (o := 1) H2.out (.slice a4 (n + m) cap4)
    simpa [Blk] using this
  · have hv := V4.out
    rw [← flat_app] at hv
    have hl2 : n + m = (a ++ b).length := by rw [HN.out.1, HN.out.2]; simp
    rw [← hl2]
    refine (hv.turned (Turned.setCell (S := (· = r)) (p := ⟨r, 1, none⟩) rfl _) fun b q z => ?_).widen fun b q => ?_
    · subst z; rcases q with (q | q) | q <;> first | exact q | omega
    · refine ⟨.inr ?_, fun z => ?_⟩
      · rcases q with (q | q) | q <;> first | exact q.elim | omega
      · subst z; rcases q with (q | q) | q <;> first | exact q | omega

end Go.Proofs.Ytbhafcmdmpebiaa
