/- The reference's Put. -/
import Derived.Test.YtbhafcmdmpebiaaRef2
namespace Go.Proofs.Ytbhafcmdmpebiaa
open Go.RowKit Go.Mine

theorem src_pair (x : Int × Int) (w : World) : Src Try.prog 2 49 (.slice (some ⟨w.heap.size, 0, none⟩) 1 1) 1 (flat [x]) (w.alloc (.cells #[.int .i64 x.1, .int .i64 x.2] 83)) := by
  refine Src.ofSlice _ Try.underlying49 _ 1 1 _ rfl (fun j u hu => ?_) (flat_one _)
  rw [Addr.add_lit]
  have : (w.alloc (.cells #[.int .i64 x.1, .int .i64 x.2] 83)).heap[w.heap.size]? = _ := Go.Mine.heap_alloc_new w _
  simp only [World.cell?, this, Nat.zero_add]
  simpa [flat] using hu

theorem ref_pushed {w w1 w2 : World} {S S1 : Nat → Prop} {r n cap2 : Nat} {room : Int} {kv1 : KV} {x : Int × Int} {a2 : Option Addr} {L : Value} {o : Obj} (HS : ∀ i, S1 i → More S w i) (hrs : S1 r) (T1 : Turned S w w1) (hrw : r < w1.heap.size)
    (H2 : Blk w2 r #[.int .i64 room, L] 51) (V2 : Sl w2 (More (fun b => S1 b ∧ b ≠ r) (w1.alloc o)) 83 2 (.slice a2 (n + 1) cap2) (flat kv1 ++ flat [x]) (n + 1)) (T2 : Turned (fun b => S1 b ∧ b ≠ r) (w1.alloc o) w2) (HN : n = kv1.length) :
    RefIs (w2.setCell ⟨r, 1, none⟩ (.slice a2 (n + 1) cap2)) (More S w) r room (kv1 ++ [x]) ∧ Turned S w (w2.setCell ⟨r, 1, none⟩ (.slice a2 (n + 1) cap2)) := by
  have s1 := T1.size
  have hw : (w1.alloc o).heap.size = w1.heap.size + 1 := by simp
  refine ⟨⟨.slice a2 (n + 1) cap2, ?_, HS r hrs, ?_⟩, ?_⟩
  · have := Go.Mine.heap_setCell_same (o := 1) H2 (.slice a2 (n + 1) cap2)
    simpa [Blk] using this
  · rw [← flat_app] at V2
    have hl2 : n + 1 = (kv1 ++ [x]).length := by rw [HN]; simp
    rw [← hl2]
    refine (V2.turned (Turned.setCell (S := (· = r)) (p := ⟨r, 1, none⟩) rfl _) fun b q z => ?_).widen fun b q => ?_
    · subst z
      rcases q with q | q
      · exact q.2 rfl
      · omega
    · refine ⟨?_, fun z => ?_⟩
      · rcases q with q | q
        · exact HS b q.1
        · exact .inr (by omega)
      · subst z
        rcases q with q | q
        · exact q.2 rfl
        · omega
  · have hTS : ∀ i, i < w.heap.size → S1 i → S i := fun i hi q => by
      rcases HS i q with q | q
      · exact q
      · omega
    refine Turned.comp (T := S) (Turned.comp (T := S) (T1.new o) T2 fun i hi q => ?_) (Turned.setCell (S := (· = r)) (p := ⟨r, 1, none⟩) rfl _) fun i hi q => ?_
    · rcases q with q | q
      · exact q
      · exact hTS i hi q.1
    · rcases q with q | q
      · exact q
      · subst q; exact hTS i hi hrs

set_option maxHeartbeats 1000000 in
theorem ref_put_fits {w : World} {S S1 : Nat → Prop} {r : Nat} {room : Int} {kv1 : KV} {k v : Int}
    (hd : Calls Try.prog 40 #[pt r, .int .i64 k] w fun e w' => (∃ b, e = .returned (.bool b)) ∧ RefIs w' S1 r room kv1 ∧ Turned S w w') (hS1 : ∀ i, S1 i → More S w i) (hlen : Hid (kv1.length ≤ 100000)) (_hr : Hid (r < w.heap.size))
    (hroom : ((kv1.length + 1 : Nat) : Int) ≤ room) :
    Calls Try.prog 37 #[pt r, .int .i64 k, .int .i64 v] w fun e w' => e = .returned (.tuple #[.int .i64 0, .int .i64 0, .bool false]) ∧ RefIs w' (More S w) r room (kv1 ++ [(k, v)]) ∧ Turned S w w' := by
  obtain ⟨n, hn⟩ : ∃ n, n = kv1.length := ⟨_, rfl⟩
  have hroom' : (n : Int) + 1 ≤ room := by rw [hn]; simpa using hroom
  have hn5 : n ≤ 100000 := by rw [hn]; exact hlen
  have HN : Hid (n = kv1.length) := hn
  have HS : Hid (∀ i, S1 i → More S w i) := hS1
  clear hroom hn hS1 hlen
  go_enter Try.func37, Try.ntmps37
  go_wp2_with fail
  refine hd.mono ?_
  rintro e w1 ⟨⟨b, rfl⟩, ⟨L, h1, hSr, h3⟩, ht1⟩
  have hrw := lt_of_block h1
  have r1 := cell_of h1 1 _ rfl
  have T1 : Hid (Turned S w w1) := ht1
  rw [← HN.out] at h3
  have H1 : Hid (Blk w1 r #[.int .i64 room, L] 51) := h1
  have h4 : Sl (w1.alloc (.cells #[.int .i64 k, .int .i64 v] 83)) (fun b => S1 b ∧ b ≠ r) 83 2 L (flat kv1) n := h3.turned (Turned.alloc (fun _ => False) _ _) fun _ _ q => q
  have HSr : Hid (S1 r) := hSr
  clear hd h1 ht1 h3 hSr
  go_wp2_with (at_builtin; refine wpList_append rfl _ _ 49 49 rfl h4 Try.underlying49 info83 rfl (by decide) rfl (.slice (some ⟨w1.heap.size, 0, none⟩) 1 1) rfl (src_pair (k, v) w1) ?c1 ?c2 ?_)
  case c1 => unfold maxLen; omega
  case c2 => omega
  intro v2 w2 hv2 ht2
  obtain ⟨a2, cap2, rfl, -, -⟩ := hv2.value
  have H2 : Hid (Blk w2 r #[.int .i64 room, L] 51) := Blk.turned (Go.Mine.heap_alloc_old H1.out) ht2 fun q => q.2 rfl
  have q0 := cell_of H2.out 0 _ rfl
  have q1 := cell_of H2.out 1 _ rfl
  have q2 := free_of H2.out 1
  have V2 : Hid (Sl w2 (More (fun b => S1 b ∧ b ≠ r) (w1.alloc (.cells #[.int .i64 k, .int .i64 v] 83))) 83 2 (.slice a2 (n + 1) cap2) (flat kv1 ++ flat [(k, v)]) (n + 1)) := hv2
  have T2 : Hid (Turned (fun b => S1 b ∧ b ≠ r) (w1.alloc (.cells #[.int .i64 k, .int .i64 v] 83)) w2) := ht2
  clear hv2 ht2 h4 r1
  go_wp2
  go_region
  go_wp2
  go_ret3
  obtain ⟨e1, e2⟩ := ref_pushed HS.out HSr.out T1.out hrw H2.out V2.out T2.out HN.out
  exact ⟨rfl, e1.turned (Turned.drew (fun _ => False) _) fun _ _ q => q, e2.draw⟩

set_option maxHeartbeats 1000000 in
theorem ref_put_full {w : World} {S S1 : Nat → Prop} {r : Nat} {room : Int} {kv1 : KV} {k v : Int}
    (hd : Calls Try.prog 40 #[pt r, .int .i64 k] w fun e w' => (∃ b, e = .returned (.bool b)) ∧ RefIs w' S1 r room kv1 ∧ Turned S w w') (hS1 : ∀ i, S1 i → More S w i) (hlen : Hid (kv1.length ≤ 100000)) (hr : Hid (r < w.heap.size))
    (hroom : room < ((kv1.length + 1 : Nat) : Int)) (x : Int × Int) (t : KV) (hxt : kv1 ++ [(k, v)] = x :: t) :
    Calls Try.prog 37 #[pt r, .int .i64 k, .int .i64 v] w fun e w' => e = .returned (.tuple #[.int .i64 x.1, .int .i64 x.2, .bool true]) ∧ RefIs w' (More S w) r room t ∧ Turned S w w' := by
  obtain ⟨n, hn⟩ : ∃ n, n = kv1.length := ⟨_, rfl⟩
  have hroom' : room < (n : Int) + 1 := by rw [hn]; simpa using hroom
  have HX : Hid (kv1 ++ [(k, v)] = x :: t) := hxt
  have hn5 : n ≤ 100000 := by rw [hn]; exact hlen
  have HN : Hid (n = kv1.length) := hn
  have HS : Hid (∀ i, S1 i → More S w i) := hS1
  clear hroom hxt hn hS1 hlen
  go_enter Try.func37, Try.ntmps37
  go_wp2_with fail
  refine hd.mono ?_
  rintro e w1 ⟨⟨b, rfl⟩, ⟨L, h1, hSr, h3⟩, ht1⟩
  have hrw := lt_of_block h1
  have r1 := cell_of h1 1 _ rfl
  have T1 : Hid (Turned S w w1) := ht1
  rw [← HN.out] at h3
  have H1 : Hid (Blk w1 r #[.int .i64 room, L] 51) := h1
  have h4 : Sl (w1.alloc (.cells #[.int .i64 k, .int .i64 v] 83)) (fun b => S1 b ∧ b ≠ r) 83 2 L (flat kv1) n := h3.turned (Turned.alloc (fun _ => False) _ _) fun _ _ q => q
  have HSr : Hid (S1 r) := hSr
  clear hd h1 ht1 h3 hSr
  go_wp2_with (at_builtin; refine wpList_append rfl _ _ 49 49 rfl h4 Try.underlying49 info83 rfl (by decide) rfl (.slice (some ⟨w1.heap.size, 0, none⟩) 1 1) rfl (src_pair (k, v) w1) ?c1 ?c2 ?_)
  case c1 => unfold maxLen; omega
  case c2 => omega
  intro v2 w2 hv2 ht2
  obtain ⟨a2, cap2, rfl, -, -⟩ := hv2.value
  have H2 : Hid (Blk w2 r #[.int .i64 room, L] 51) := Blk.turned (Go.Mine.heap_alloc_old H1.out) ht2 fun q => q.2 rfl
  have q0 := cell_of H2.out 0 _ rfl
  have q1 := cell_of H2.out 1 _ rfl
  have q2 := free_of H2.out 1
  have V2 : Hid (Sl w2 (More (fun b => S1 b ∧ b ≠ r) (w1.alloc (.cells #[.int .i64 k, .int .i64 v] 83))) 83 2 (.slice a2 (n + 1) cap2) (flat kv1 ++ flat [(k, v)]) (n + 1)) := hv2
  have T2 : Hid (Turned (fun b => S1 b ∧ b ≠ r) (w1.alloc (.cells #[.int .i64 k, .int .i64 v] 83)) w2) := ht2
  clear hv2 ht2 h4 r1
  obtain ⟨v3, hv3r, hv3⟩ := V2.out.run_from (P := Try.prog) Try.underlying49 info83 1 .i64 1 rfl (by omega)
  obtain ⟨a3, cap3, rfl, -, -⟩ := hv3.value
  obtain ⟨g, off, cap', hval, hgS, -, -, hcell, -, hgw⟩ := V2.out.opens (by omega)
  injection hval with e1 e2 e3
  subst e1; subst e3
  have c0 := hcell 0 (by omega)
  have c1 := hcell 1 (by omega)
  rw [← flat_app, HX.out, flat_cons] at c0 c1
  have c0' : w2.cell? ⟨g, off, none⟩ = some (.int .i64 x.1) := c0
  have c1' : w2.cell? ⟨g, off + 1, none⟩ = some (.int .i64 x.2) := c1
  have hgr : ¬ g = r := fun z => by
    subst z
    rcases hgS with q | q
    · exact q.2 rfl
    · simp at q; omega
  have V3 : Hid (Sl w2 _ 83 2 (.slice a3 (n + 1 - 1) cap3) _ _) := hv3
  have hr2 := lt_of_block H2.out
  clear hcell c0 c1 hv3 hgS
  go_wp2
  go_region
  go_wp2
  go_region
  go_wp2
  go_ret3
  obtain ⟨⟨_, e1, eS, -⟩, e2⟩ := ref_pushed HS.out HSr.out T1.out hrw H2.out V2.out T2.out HN.out
  have hl : n = t.length := by have := congrArg List.length HX.out; simp at this; rw [HN.out]; omega
  have hv : Sl w2 (More (fun b => S1 b ∧ b ≠ r) (w1.alloc (.cells #[.int .i64 k, .int .i64 v] 83))) 83 2 (.slice a3 n cap3) (flat t) t.length := by
    have h := V3.out
    rw [← flat_app, HX.out, flat_drop] at h
    rw [← hl]; exact h
  have hT : ∀ o, Turned S w ((((w2.setCell ⟨r, 1, none⟩ (.slice (some ⟨g, off, none⟩) (n + 1) cap2)).setCell ⟨r, 1, none⟩ (.slice a3 n cap3)).alloc o)) := fun o =>
    (e2.comp (T := S) (Turned.setCell (S := (· = r)) (p := ⟨r, 1, none⟩) rfl _) fun i hi q => by
      rcases q with q | q
      · exact q
      · subst q
        rcases eS with q | q
        · exact q
        · omega).new o
  have hw : (w1.alloc (.cells #[.int .i64 k, .int .i64 v] 83)).heap.size = w1.heap.size + 1 := by simp
  refine ⟨rfl, ⟨.slice a3 n cap3, ?_, eS, ?_⟩, (hT _).draw.draw⟩
  · have h1 := Go.Mine.heap_setCell_same (o := 1) (Go.Mine.heap_setCell_same (o := 1) H2.out (.slice (some ⟨g, off, none⟩) (n + 1) cap2)) (.slice a3 n cap3)
    have h2 := Go.Mine.heap_alloc_old (o := .cells #[.int .i64 x.1, .int .i64 x.2] 83) h1
    unfold Blk
    rw [heap_drew, heap_drew, h2]; rfl
  · refine Sl.drew (Sl.drew (Sl.widen (Sl.turned (T := fun _ => False) (Sl.turned (T := (· = r)) (Sl.turned (T := (· = r)) hv (Turned.setCell (S := (· = r)) (p := ⟨r, 1, none⟩) rfl _) ?_) (Turned.setCell (S := (· = r)) (p := ⟨r, 1, none⟩) rfl _) ?_) (Turned.alloc _ _ _) fun _ _ q => q) fun b q => ?_))
    · intro b q z; subst z
      rcases q with q | q
      · exact q.2 rfl
      · omega
    · intro b q z; subst z
      rcases q with q | q
      · exact q.2 rfl
      · omega
    · have s1 := T1.out.size
      refine ⟨?_, fun z => ?_⟩
      · rcases q with q | q
        · exact HS.out b q.1
        · exact .inr (by omega)
      · subst z
        rcases q with q | q
        · exact q.2 rfl
        · omega

end Go.Proofs.Ytbhafcmdmpebiaa
