/- The law's own comparison of keys: true where both hold the same list. -/
import Derived.Test.YtbhafcmdmpebiaaRef4
import Derived.RegionCalls
import Derived.Deep.LoopGhost
namespace Go.Proofs.Ytbhafcmdmpebiaa
open Go.RowKit Go.Mine

theorem Sl.stored {w : World} {S : Nat → Prop} {e : TypeId} {size : Nat} {g off n cap : Nat} {xs : List Value} (h : Sl w S e size (.slice (some ⟨g, off, none⟩) n cap) xs n) (j : Nat) (_hj : j < n * size) (u : Value) :
    Sl (w.setCell ⟨g, off + j, none⟩ u) S e size (.slice (some ⟨g, off, none⟩) n cap) (xs.set j u) n ∧ Turned S w (w.setCell ⟨g, off + j, none⟩ u) := by
  rcases h.2 with ⟨h', _⟩ | ⟨g', off', cap', cur, h', hS, hg, hnc, hcm, hcs, htake⟩
  · simp at h'
  · simp only [Value.slice.injEq, Option.some.injEq, Addr.mk.injEq, and_true, true_and] at h'
    obtain ⟨⟨rfl, rfl⟩, rfl⟩ := h'
    refine ⟨⟨by simpa using h.1, .inr ⟨g, off, cap, cur.setIfInBounds (off + j) u, rfl, hS, Go.Mine.heap_setCell_same hg u, hnc, hcm, by simpa using hcs, ?_⟩⟩, Turned.setCell (p := ⟨g, off + j, none⟩) hS u⟩
    rw [Array.toList_setIfInBounds, List.drop_set, if_neg (by omega), Nat.add_sub_cancel_left, List.take_set, htake]

theorem src_lit {P : Program} {tx te e' : TypeId} {size : Nat} (hk : P.underlying tx = some (.slice e')) (cs : List Value) (n c : Nat) (hl : cs.length = n * size) (h1 : ∀ u ∈ cs, u.oneCell' = true) (w : World) :
    Src P size tx (.slice (some ⟨w.heap.size, 0, none⟩) n c) n cs (w.alloc (.cells cs.toArray te)) := by
  refine Src.ofSlice _ hk _ n c cs hl (fun j u hu => ?_) h1
  rw [Addr.add_lit]
  have : (w.alloc (.cells cs.toArray te)).heap[w.heap.size]? = _ := Go.Mine.heap_alloc_new w _
  simp only [World.cell?, this, Nat.zero_add]
  simpa using hu

theorem Turned.drewN (S : Nat → Prop) (w : World) (n : Nat) : Turned S w (w.drewN n) := ⟨rfl, rfl, rfl, Nat.le_refl _, fun _ _ _ => rfl⟩

set_option maxHeartbeats 1000000 in
theorem keys_law {w : World} {S R : Nat → Prop} {c r : Nat} {room room' : Int} {kv : KV} (h : CacheIs w S c room kv) (hr : RefIs w R r room' kv) (hlen : Hid (kv.length ≤ 100000)) :
    Calls Try.prog 21 #[pt c, pt r] w fun e w' => e = .returned (.bool true) ∧ Turned (fun _ => False) w w' := by
  have hk := keys_kv h hlen
  have hcw : CacheIs w (fun b => b < w.heap.size) c room kv := h.bound.widen fun b q => q.2
  have hrw : RefIs w (fun b => b < w.heap.size) r room' kv := hr.bound.widen fun b q => q.2
  have hn5 : kv.length ≤ 100000 := hlen
  have hrlt : r < w.heap.size := by obtain ⟨_, h1, _⟩ := hr; exact lt_of_block h1
  obtain ⟨n, hn⟩ : ∃ n, n = kv.length := ⟨_, rfl⟩
  rw [← hn] at hk hn5
  have HN : Hid (n = kv.length) := hn
  clear h hr hn hlen
  go_enter Try.func21, Try.ntmps21
  go_wp2_with fail
  refine hk.mono ?_
  rintro e w1 ⟨v, rfl, hsl, ht1⟩
  obtain ⟨a1, cap1, rfl, hcap, -⟩ := hsl.value
  have hl1 : ∀ m, Calls Try.prog 12 #[pt c] (w1.drewN m) fun e w' => e = .returned (.int .i64 kv.length) ∧ w' = w1.drewN m := fun m =>
    (len_kv ((hcw.turned ht1 fun _ _ q => q).turned (Turned.drewN (fun _ => False) w1 m) fun _ _ q => q)).mono fun _ _ ⟨q1, q2⟩ => ⟨q1, q2.symm⟩
  obtain ⟨L, hb, -, hS⟩ := hrw.turned ht1 fun _ _ q => q
  obtain ⟨a2, cap2, rfl, hcap2, -⟩ := hS.value
  rw [← HN.out] at hb hcap2
  simp only [← HN.out] at hl1
  have r1 := cell_of hb 1 _ rfl
  have hrw' : Hid (r < w.heap.size) := hrlt
  have T1 : Hid (Turned (fun _ => False) w w1) := ht1
  have SL : Hid (Sl w1 _ 3 1 (.slice a1 n cap1) (kv.map fun x => .int .i64 x.1) n) := hsl
  have HB : Hid (Blk w1 r _ 51) := hb
  have HS : Hid (Sl w1 _ 83 2 (.slice a2 kv.length cap2) (flat kv) kv.length) := hS
  clear hk ht1 hcw hrw hsl hb hS
  have hd : ((n : Int) != (n : Int)) = false := by simp
  go_wp2
  go_quiet ((go_at_call 12; exact Calls.quiet_of_same (hl1 _)))
  go_wp2
  have W0 : Hid (Turned (fun b => w.heap.size ≤ b) w1 (w1.drewN nq)) := Turned.drewN _ _ _
  go_loopg [29] n (fun gk i wr => ∃ (j : Nat) (xs : List Value), j + gk = n ∧ i = .int .i64 j ∧ Sl wr (fun b => w.heap.size ≤ b) 3 1 (.slice a1 n cap1) xs n ∧ (∀ t, j ≤ t → t < n → xs[t]? = some (.int .i64 (kv.getD t (0, 0)).1)) ∧ Turned (fun b => w.heap.size ≤ b) w1 wr)
  case atStart =>
    refine ⟨0, _, Nat.zero_add _, rfl, SL.out, fun t _ ht => ?_, W0.out⟩
    have ht' : t < kv.length := by rw [← HN.out]; exact ht
    simp [List.getD, ht']
  case round =>
    obtain ⟨j, xs, hj, rfl, hsl, hxs, ht⟩ := hrel
    by_cases hlt : j < n
    · obtain ⟨g, off, cap', hval, -, -, -, hcell, hfr, hgw⟩ := hsl.opens (by omega)
      injection hval with e1 e2 e3
      subst e1; subst e3
      have c0 := hcell j (by omega)
      rw [hxs j (Nat.le_refl _) hlt] at c0
      have f0 := hfr (off + j)
      have hT : ∀ b, (fun b => b < w.heap.size) b → ¬ (w.heap.size ≤ b) := fun b q => by simp only at q; omega
      have hb' := HB.out.turned ht (by have := T1.out; exact fun q => by have := hrw'.out; omega)
      have hS' := HS.out.turned ht fun b q => by have := q.1; omega
      obtain ⟨g2, off2, cap3, hval2, -, -, -, hcell2, -, -⟩ := hS'.opens (by rw [← HN.out]; omega)
      injection hval2 with e1 e2 e3
      subst e1; subst e3
      have d0 := hcell2 (j * 2) (by rw [← HN.out]; omega)
      rw [flat_get0 kv j (by rw [← HN.out]; omega)] at d0
      have r2 := cell_of hb' 1 _ rfl
      obtain ⟨y, hy⟩ : ∃ y, y = (kv.getD j (0, 0)).1 := ⟨_, rfl⟩
      rw [← hy] at c0 d0
      have hyy : (y != y) = false := by simp
      obtain ⟨st1, st2⟩ := Sl.stored hsl j (by omega) (.int .i64 (-99))
      have X : Hid (Sl (wr.setCell ⟨g, off + j, none⟩ (.int .i64 (-99))) (fun b => w.heap.size ≤ b) 3 1 (.slice (some ⟨g, off, none⟩) n cap1) (xs.set j (.int .i64 (-99))) n ∧ Turned (fun b => w.heap.size ≤ b) w1 (wr.setCell ⟨g, off + j, none⟩ (.int .i64 (-99))) ∧ ∀ t, j ≤ t → t < n → xs[t]? = some (.int .i64 (kv.getD t (0, 0)).1)) := ⟨st1, ht.trans st2 fun _ _ q => q, hxs⟩
      clear hsl hxs ht hcell hfr hb' hS' hcell2 st1 st2 hy hgw hT
      go_wp2
      go_region
      go_wp2
      go_roundg (gk - 1)
      case measure => omega
      case rel =>
        obtain ⟨x1, x2, x3⟩ := X.out
        refine ⟨j + 1, _, by omega, rfl, x1, fun t h1 h2 => ?_, x2.draw⟩
        rw [List.getElem?_set_ne (by omega)]
        exact x3 t (by omega) h2
    · have hsl3 : Sl (wr.alloc (.cells [Value.int .i64 (-98), Value.int .i64 (-97), Value.int .i64 (-96)].toArray 3)) (fun b => w.heap.size ≤ b) 3 1 (.slice a1 n cap1) xs n := hsl.turned (Turned.alloc (fun _ => False) _ _) fun _ _ q => q
      have hsrc := src_lit (P := Try.prog) (te := 3) (size := 1) Try.underlying22 [Value.int .i64 (-98), Value.int .i64 (-97), Value.int .i64 (-96)] 3 3 rfl (by simp [Value.oneCell']) wr
      have X : Hid (Turned (fun b => w.heap.size ≤ b) w1 wr) := ht
      clear hsl hxs ht
      go_wp2_with (at_builtin; refine wpList_append rfl _ _ 22 22 rfl hsl3 Try.underlying22 info3 rfl (by decide) rfl (.slice (some ⟨wr.heap.size, 0, none⟩) 3 3) rfl hsrc ?c1 ?c2 ?_)
      case c1 => unfold maxLen; omega
      case c2 => omega
      intro v2 w2 hv2 ht2
      have X2 : Hid (Turned (fun b => w.heap.size ≤ b) _ w2) := ht2
      clear hv2 ht2 hsl3 hsrc
      go_wp2
      go_ret
      refine ⟨rfl, ?_⟩
      have t1 := T1.out
      refine t1.comp ((X.out.new _).comp (T := fun b => w.heap.size ≤ b) X2.out fun i hi q => by rcases q with q | q <;> exact q) fun i hi q => ?_
      rcases q with q | q
      · exact q
      · omega

end Go.Proofs.Ytbhafcmdmpebiaa
