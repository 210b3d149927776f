/- Packed. -/
import Derived.Test.YtofcogekgcgjhaaGreatDoorZzam
set_option linter.unusedVariables false
set_option linter.unusedSimpArgs false
set_option maxRecDepth 100000
namespace Go.Proofs.YtofcogekgcgjhaaGreatDoor
open Go.RowKit Go.Mine Go.Mine.Ac
theorem src_new {P : Program} {tx e' : TypeId} (T : TypeId) (hk : P.underlying tx = some (.slice e')) (xs : List Value) (h1 : ∀ u ∈ xs, u.oneCell' = true) (w : World) :
  Src P xs.length tx (.slice (some ⟨w.heap.size, 0, none⟩) 1 1) 1 xs (w.alloc (.cells xs.toArray T)) := by
 refine Src.ofSlice _ hk ⟨w.heap.size, 0, none⟩ 1 1 xs (by simp) (fun j u hj => ?_) h1
 rw [Addr.add_lit, Nat.zero_add]
 exact cell_of (Go.Mine.heap_alloc_new w _) j u (by simpa using hj)
theorem src_newD {P : Program} {tx e' : TypeId} (T : TypeId) (hk : P.underlying tx = some (.slice e')) (xs : List Value) (h1 : ∀ u ∈ xs, u.oneCell' = true) (w : World) :
  Src P xs.length tx (.slice (some ⟨w.heap.size, 0, none⟩) 1 1) 1 xs (w.alloc (.cells xs.toArray T)).drew := by
 refine Src.ofSlice _ hk ⟨w.heap.size, 0, none⟩ 1 1 xs (by simp) (fun j u hj => ?_) h1
 rw [Addr.add_lit, Nat.zero_add]
 exact cell_of (w := (w.alloc (.cells xs.toArray T)).drew) (Go.Mine.heap_alloc_new w _) j u (by simpa using hj)
theorem info159 : (Tryz.prog.info? 159).map (fun i => (i.zero, i.size, i.bytes)) = some (some (.agg #[.string ⟨#[]⟩, .string ⟨#[]⟩, .pointer none]), 3, 40) := by kernel_rfl
def FsPostC (w : World) (rl : Nat → Nat) (d : Nat) (D' : Dk) (n : Nat) (w' : World) : Prop :=
 ∃ rl' ms' mf' pv' F', FsC w' rl' d ms' mf' pv' F' D' n ∧ (∀ b, rl' b ≠ 0 → rl b ≠ 0 ∨ w.heap.size ≤ b) ∧ Turned (fun b => rl b ≠ 0) w w'
abbrev FsPost (w : World) (rl : Nat → Nat) (d : Nat) (D' : Dk) (w' : World) : Prop := FsPostC w rl d D' D'.files.length w'
theorem newR_or {rl : Nat → Nat} {w w' : World} {k b : Nat} (h : newR rl w w' k b ≠ 0) : rl b ≠ 0 ∨ w.heap.size ≤ b := by
 by_cases hb : b < w.heap.size
 ·rw [newR_old hb] at h; exact .inl h
 ·exact .inr (by omega)
theorem sl_widenB {w : World} {S T : Nat → Prop} {e : TypeId} {size : Nat} {v : Value} {xs : List Value} {n : Nat} (h : Sl w S e size v xs n) (hS : ∀ b, b < w.heap.size → S b → T b) : Sl w T e size v xs n := by
 refine ⟨h.1, ?_⟩
 rcases h.2 with h | ⟨g, off, cap, cur, h1, h2, h3⟩
 ·exact .inl h
 ·exact .inr ⟨g, off, cap, cur, h1, hS g (lt_of_block h3.1) h2, h3⟩
theorem change_done {w W w2 w3 : World} {rl : Nat → Nat} {d ms mf : Nat} {pv v' : Value} {F : Nat → Nat} {D : Dk} {N : Nat} (h : FsC w rl d ms mf pv F D N) (c : Chg) (o : Obj)
  (hc : c.come ≠ emp → ∃ x, D.files[c.file]? = some x ∧ FileAt w rl F c.file x) (hW : Turned (fun _ => False) w W) (h2 : Turned (· = ms) W w2) (hm : MapIs KStr w2 ms (mapN F (changed D.seen c)) (changed D.seen c).length) (hB : Births w2 ms)
  (h3 : Turned (fun b => rl b = 4) (w2.alloc o).drew w3) (hs : Sl w3 (More (fun b => rl b = 4) (w2.alloc o).drew) 159 3 v' (pcells F D.pend ++ pcell F c) (D.pend.length + 1)) (hd : w3.heap[d]? = w.heap[d]?) :
  FsPostC w rl d (D.change c) N (w3.setCell ⟨d, 4, none⟩ v') := by
 have r1 := h.r1
 have r2 := h.r2
 have hdm : ms ≠ d := fun q => by rw [q, r1] at r2; omega
 have s2 := h2.size
 have sW := hW.size
 have es : (w2.alloc o).drew.heap.size = w2.heap.size + 1 := by
  show (w2.alloc o).heap.size = _
  simp
 have s3 : w2.heap.size + 1 ≤ w3.heap.size := by
  have := h3.size
  omega
 have hml := hm.lt
 have T3 : Turned (fun b => rl b = 4) w2 w3 := ((Turned.alloc (fun b => rl b = 4) w2 o).draw).trans h3 fun _ _ q => q
 have T1 : Turned (fun b => b = d ∨ b = ms ∨ rl b = 4) w (w3.setCell ⟨d, 4, none⟩ v') := by
  refine Turned.set ?_ (p := ⟨d, 4, none⟩) (.inl rfl) _
  refine Turned.comp (S := fun b => b = ms) (S' := fun b => rl b = 4) ?_ T3 fun i _ q => q.elim (fun q => .inr (.inl q)) fun q => .inr (.inr q)
  exact hW.comp h2 fun i _ q => q.elim False.elim id
 have hsz : (w3.setCell ⟨d, 4, none⟩ v').heap.size = w3.heap.size := setCell_size _ _ _
 have hne : (w3.setCell ⟨d, 4, none⟩ v').heap[ms]? = w2.heap[ms]? := (heap_setCell_ne _ hdm).trans (T3.block _ hml (by rw [r2]; decide))
 refine ⟨_, ms, mf, v', F, h.changeAt (w' := w3.setCell ⟨d, 4, none⟩ v') c hc T1 ?_ (hm.congr hne fun _ => rfl) (hB.congr hne) ?_, fun b hb => newR_or hb, T1.mono fun i _ q => by rcases q with q | q | q <;> simp_all⟩
 ·have hb := hd.trans h.blk
  have := Go.Mine.heap_setCell_same hb (o := 4) v'
  simpa [Blk] using this
 ·have ts : Turned (· = d) w3 (w3.setCell ⟨d, 4, none⟩ v') := Turned.setCell (S := (· = d)) (p := ⟨d, 4, none⟩) rfl _
  refine sl_widenB (hs.turned ts fun b hb q => ?_) fun b hb q => ?_
  ·rcases hb with hb | hb
   ·rw [q, r1] at hb; omega
   ·have := h.bnd d (by rw [r1]; decide)
    omega
  ·rcases q with q | q
   ·rw [newR_old (h.bnd b (by omega))]; exact q
   ·exact newR_new (by omega) hb
set_option maxHeartbeats 1000000 in
theorem fchange_any {w : World} {rl : Nat → Nat} {d ms mf : Nat} {pv : Value} {F : Nat → Nat} {D : Dk} {N : Nat} (h : FsC w rl d ms mf pv F D N) (hok : NmsOk D.files.length D.seen) (c : Chg)
  (hc : c.come ≠ emp → ∃ x, D.files[c.file]? = some x ∧ FileAt w rl F c.file x) (hp : D.pend.length ≤ 1000000000) :
  Calls Tryz.prog 97 #[pt d, .agg (pcell F c).toArray] w fun e w' => e = .returned (.tuple #[]) ∧ FsPostC w rl d (D.change c) N w' := by
 obtain ⟨g, z, o, hpc⟩ : ∃ g z o, pcell F c = [.string g, .string z, .pointer o] := by
  unfold pcell
  by_cases q : c.come = emp
  ·exact ⟨_, _, none, by rw [if_pos q]⟩
  ·exact ⟨_, _, some ⟨F c.file, 0, none⟩, by rw [if_neg q]⟩
 have HDO : Hid (∀ W, Turned (fun _ => False) w W → Calls Tryz.prog 89 #[.agg #[.string g, .string z, .pointer o], .map (some ms)] W (DoPost W ms F D.seen c)) := hidS fun W hW => by
  have := fdo_any (F := F) (w := W) (m := ms) c (h.seen.congr (hW.block _ h.seen.lt id) fun _ => rfl) (h.bs.congr (hW.block _ h.seen.lt id)) hok.nodup hok.ne
  rw [hpc] at this
  exact this
 have HP : Hid (pcell F c = [.string g, .string z, .pointer o]) := hpc
 have H : Hid (FsC w rl d ms mf pv F D N) := h
 have HC := hc
 replace HC : Hid (c.come ≠ emp → ∃ x, D.files[c.file]? = some x ∧ FileAt w rl F c.file x) := HC
 have HL : Hid (D.pend.length ≤ 1000000000) := hp
 rw [hpc]
 have c2 := cell_of h.blk 2 _ rfl
 have hlt := lt_of_block h.blk
 obtain ⟨a, cap, hpv, -, -⟩ := h.pend.value
 subst hpv
 have hne : ms ≠ d := fun q => by have h1 := h.r1; have h2 := h.r2; rw [q, h1] at h2; omega
 obtain ⟨n, hn⟩ : ∃ n, n = D.pend.length := ⟨_, rfl⟩
 have HN : Hid (n = D.pend.length) := hn
 have hB : ∀ W w2 : World, W.heap[w.heap.size]? = some (.cells #[.string g, .string z, .pointer o] 159) → Turned (fun _ => False) w W → Turned (· = ms) W w2 → w2.heap[w.heap.size]? = some (.cells #[.string g, .string z, .pointer o] 159) := fun W w2 h1 h2 h3 =>
  (h3.block _ (lt_of_block h1) fun q => by have := h.seen.lt; omega).trans h1
 have hD : ∀ W w2 : World, Turned (fun _ => False) w W → Turned (· = ms) W w2 → w2.heap[d]? = w.heap[d]? := fun W w2 h2 h3 =>
  (h3.block _ (Nat.lt_of_lt_of_le hlt h2.size) fun q => hne q.symm).trans (h2.block _ hlt id)
 have K1 : Hid (∀ W w2 : World, Turned (· = ms) W w2 → Turned (fun _ => False) w W → W.heap[w.heap.size]? = some (.cells #[.string g, .string z, .pointer o] 159) →
   w2.cell? ⟨d, 4, none⟩ = some (.slice a n cap) ∧ w2.frozen? ⟨d, 4, none⟩ = false ∧ d < w2.heap.size ∧ w2.cell? ⟨w.heap.size, 0, none⟩ = some (.string g) ∧ w2.cell? ⟨w.heap.size, 1, none⟩ = some (.string z) ∧ w2.cell? ⟨w.heap.size, 2, none⟩ = some (.pointer o) ∧ w2.heap[d]? = w.heap[d]? ∧
   Sl ((w2.alloc (.cells #[.string g, .string z, .pointer o] 159)).drew) (fun b => rl b = 4) 159 3 (.slice a n cap) (pcells F D.pend) n)   := hidS fun W w2 h3 h2 h1 => by
  have b1 := hB W w2 h1 h2 h3
  have b2 := (hD W w2 h2 h3).trans h.blk
  refine ⟨by rw [hn]; exact cell_of b2 4 _ rfl, free_of b2 4, lt_of_block b2, cell_of b1 0 _ rfl, cell_of b1 1 _ rfl, cell_of b1 2 _ rfl, hD W w2 h2 h3, ?_⟩
  rw [hn]
  have r2 := h.r2
  exact (((h.pend.turned h2 fun _ _ q => q).turned h3 fun b hb q => by rw [q, r2] at hb; omega).turned (Turned.alloc (fun _ => False) _ _) fun _ _ q => q).drew
 have KSRC : Hid (∀ w2 : World, Src Tryz.prog 3 146 (.slice (some ⟨w2.heap.size, 0, none⟩) 1 1) 1 [.string g, .string z, .pointer o] ((w2.alloc (.cells #[.string g, .string z, .pointer o] 159)).drew)) := hidS fun w2 =>
  src_newD 159 Tryz.underlying146 [.string g, .string z, .pointer o] (by simp [Value.oneCell']) w2
 have K4 : Hid (∀ w2 w3 : World, Turned (fun b => rl b = 4) (w2.alloc (.cells #[.string g, .string z, .pointer o] 159)).drew w3 → w2.heap[d]? = w.heap[d]? → w3.heap[d]? = w.heap[d]? ∧ w3.frozen? ⟨d, 4, none⟩ = false ∧ d < w3.heap.size ∧ w3.cell? ⟨d, 4, none⟩ = some (.slice a n cap)) := hidS fun w2 w3 ht he => by
  have r1 := h.r1
  have hb := h.blk
  rw [← hn] at hb
  have h2 : w2.heap[d]? = _ := he.trans hb
  have h3 : w3.heap[d]? = _ := ((ht.block d (by have := lt_of_block h2; show d < (w2.alloc _).heap.size; simp; omega) (by rw [r1]; decide)).trans (alloc_old _ (lt_of_block h2))).trans h2
  exact ⟨h3.trans hb.symm, free_of h3 4, lt_of_block h3, cell_of h3 4 _ rfl⟩
 have m1 : Hid (n + 1 ≤ maxLen ∧ (n + 1) * 40 ≤ 140737488355328) := hidS ⟨by rw [hn]; simp only [maxLen]; omega, by rw [hn]; omega⟩
 rw [← hn] at c2
 clear hpc h hok hc hp hB hD hn
 go_enter Tryz.func97, Tryz.ntmps97
 go_wp2
 go_region_with (first | (go_at_call 89; (refine (HDO.out _ (by first | exact Turned.alloc _ _ _ | exact (Turned.alloc _ _ _).draw | exact ((Turned.alloc _ _ _).draw).draw)).mono ?_); rintro e w2 ⟨rfl, hm2, ht2, hz2, hb2⟩; obtain ⟨k1, k2, k3, k4, k5, k6, k8, k7⟩ := K1.out _ w2 ht2 (by first | exact Turned.alloc _ _ _ | exact (Turned.alloc _ _ _).draw | exact ((Turned.alloc _ _ _).draw).draw) (by exact heap_alloc_new _ _); have KS := KSRC.out w2; replace KS : Hid _ := hidS KS; replace k7 : Hid _ := hidS k7; have Z2 : Hid (MapIs KStr w2 ms (mapN F (changed D.seen c)) (changed D.seen c).length ∧ Turned (· = ms) _ w2 ∧ w2.heap.size = _ ∧ Births w2 ms) := hidS ⟨hm2, ht2, hz2, hb2⟩; clear hm2 ht2 hz2 hb2))
 all_goals go_wp2
 all_goals go_region_law ((refine step_append (by rfl) _ _ 146 146 (by rfl) k7.out Tryz.underlying146 info159 rfl (by decide) (by rfl) (.slice (some ⟨w2.heap.size, 0, none⟩) 1 1) (by rfl) KS.out m1.out.1 m1.out.2 ?_; intro v' w3 hsl ht3; obtain ⟨a3, cap3, hv3, -, -⟩ := hsl.value; subst hv3; have hq := K4.out w2 w3 ht3 k8; obtain ⟨q1, q2, q3, q4⟩ := hq; have HQ : Hid (Sl w3 _ 159 3 _ _ (n + 1) ∧ Turned _ _ w3) := ⟨hsl, ht3⟩; clear hsl ht3))
 all_goals go_wp2
 all_goals go_end0
 all_goals exact ⟨rfl, change_done H.out c _ HC.out (by first | exact Turned.alloc _ _ _ | exact (Turned.alloc _ _ _).draw | exact ((Turned.alloc _ _ _).draw).draw) Z2.out.2.1 Z2.out.1 Z2.out.2.2.2 HQ.out.2 (by rw [HP.out, ← HN.out]; exact HQ.out.1) q1⟩
theorem FsAt.counted {w : World} {rl : Nat → Nat} {d ms mf : Nat} {pv : Value} {F : Nat → Nat} {D : Dk} (h : FsAt w rl d ms mf pv F D) (h1 : D.falls ≠ 1) (m : Nat) (hm : m = D.falls - 1) :
  FsAt (w.setCell ⟨d, 5, none⟩ (.int .i64 (m : Nat))) rl d ms mf pv F { D with falls := D.falls - 1 } ∧ Turned (· = d) w (w.setCell ⟨d, 5, none⟩ (.int .i64 (m : Nat))) := by
 have t : Turned (· = d) w (w.setCell ⟨d, 5, none⟩ (.int .i64 (m : Nat))) := Turned.setCell (S := (· = d)) (p := ⟨d, 5, none⟩) rfl _
 refine ⟨h.put t ?_ rfl rfl rfl rfl, t⟩
 have := Go.Mine.heap_setCell_same h.blk (o := 5) (.int .i64 (m : Nat))
 rw [hm]
 rw [hm] at this
 simpa [Blk] using this
theorem step_goes96 {w : World} {rl : Nat → Nat} {d ms mf : Nat} {pv : Value} {F : Nat → Nat} {D : Dk} (h : FsAt w rl d ms mf pv F D) (h1 : D.falls ≠ 1) (hF : D.falls ≤ 9223372036854775807) (b0 b1 : Nat) {Q : World → Prop}
  (hc : ∀ w1, FsAt w1 rl d ms mf pv F { D with falls := D.falls - 1 } → Turned (· = d) w w1 → w1.heap.size = w.heap.size → Calls Tryz.prog 96 #[pt b0, pt b1] w1 fun e w' => e = .returned (.tuple #[]) ∧ Q w') :
  Calls Tryz.prog 95 #[pt d, .func (.func 96) #[] #[pt b0, pt b1]] w fun e w' => e = .returned (.int .i64 0) ∧ Q w' := by
 have f5 := free_of h.blk 5
 have c5 := cell_of h.blk 5 _ rfl
 have hlt := lt_of_block h.blk
 by_cases h0 : D.falls = 0
 ·have hD : { D with falls := D.falls - 1 } = D := by cases D; simp at h0 ⊢; omega
  rw [hD] at hc
  have hc0 := hc w h (Turned.refl _ _) rfl
  rw [h0] at c5
  clear h h1 hF h0 hc hD
  go_enter Tryz.func95, Tryz.ntmps95
  go_wp2_with (go_at_call 96; (with_reducible refine hc0.mono ?_); rintro e w' ⟨rfl, q⟩; replace q : Hid _ := hidS q)
  go_ret
  exact ⟨rfl, q.out⟩
 ·obtain ⟨m, hm⟩ : ∃ m, m = D.falls - 1 := ⟨_, rfl⟩
  obtain ⟨k1, k2⟩ := h.counted h1 m hm
  have hc0 := hc _ k1 k2 (setCell_size _ _ _)
  have e1 : decide ((0 : Int) < (D.falls : Int)) = true := by simp; omega
  have e2 : decide (0 < D.falls) = true := by simp; omega
  have hw : wrap64 ((D.falls : Int) - 1) = ((m : Nat) : Int) := by simp [wrap64]; omega
  have e3 : ((m : Int) == 0) = false := by simp; omega
  have e4 : (m == 0) = false := by simp; omega
  clear k1 k2 hc h1 hF h0 hm h
  generalize D.falls = q at *
  go_enter Tryz.func95, Tryz.ntmps95
  go_wp2_with (go_at_call 96; (with_reducible refine hc0.mono ?_); rintro e w' ⟨rfl, q⟩; replace q : Hid _ := hidS q)
  go_ret
  exact ⟨rfl, q.out⟩
theorem step_goes98 {w : World} {rl : Nat → Nat} {d ms mf : Nat} {pv : Value} {F : Nat → Nat} {D : Dk} (h : FsAt w rl d ms mf pv F D) (h1 : D.falls ≠ 1) (hF : D.falls ≤ 9223372036854775807) (b0 b1 : Nat) {Q : World → Prop}
  (hc : ∀ w1, FsAt w1 rl d ms mf pv F { D with falls := D.falls - 1 } → Turned (· = d) w w1 → w1.heap.size = w.heap.size → Calls Tryz.prog 98 #[pt b0, pt b1] w1 fun e w' => e = .returned (.tuple #[]) ∧ Q w') :
  Calls Tryz.prog 95 #[pt d, .func (.func 98) #[] #[pt b0, pt b1]] w fun e w' => e = .returned (.int .i64 0) ∧ Q w' := by
 have f5 := free_of h.blk 5
 have c5 := cell_of h.blk 5 _ rfl
 have hlt := lt_of_block h.blk
 by_cases h0 : D.falls = 0
 ·have hD : { D with falls := D.falls - 1 } = D := by cases D; simp at h0 ⊢; omega
  rw [hD] at hc
  have hc0 := hc w h (Turned.refl _ _) rfl
  rw [h0] at c5
  clear h h1 hF h0 hc hD
  go_enter Tryz.func95, Tryz.ntmps95
  go_wp2_with (go_at_call 98; (with_reducible refine hc0.mono ?_); rintro e w' ⟨rfl, q⟩; replace q : Hid _ := hidS q)
  go_ret
  exact ⟨rfl, q.out⟩
 ·obtain ⟨m, hm⟩ : ∃ m, m = D.falls - 1 := ⟨_, rfl⟩
  obtain ⟨k1, k2⟩ := h.counted h1 m hm
  have hc0 := hc _ k1 k2 (setCell_size _ _ _)
  have e1 : decide ((0 : Int) < (D.falls : Int)) = true := by simp; omega
  have e2 : decide (0 < D.falls) = true := by simp; omega
  have hw : wrap64 ((D.falls : Int) - 1) = ((m : Nat) : Int) := by simp [wrap64]; omega
  have e3 : ((m : Int) == 0) = false := by simp; omega
  have e4 : (m == 0) = false := by simp; omega
  clear k1 k2 hc h1 hF h0 hm h
  generalize D.falls = q at *
  go_enter Tryz.func95, Tryz.ntmps95
  go_wp2_with (go_at_call 98; (with_reducible refine hc0.mono ?_); rintro e w' ⟨rfl, q⟩; replace q : Hid _ := hidS q)
  go_ret
  exact ⟨rfl, q.out⟩
theorem step_goes235 {w : World} {rl : Nat → Nat} {d ms mf : Nat} {pv : Value} {F : Nat → Nat} {D : Dk} (h : FsAt w rl d ms mf pv F D) (h1 : D.falls ≠ 1) (hF : D.falls ≤ 9223372036854775807) (b0 : Nat) {Q : World → Prop}
  (hc : ∀ w1, FsAt w1 rl d ms mf pv F { D with falls := D.falls - 1 } → Turned (· = d) w w1 → w1.heap.size = w.heap.size → Calls Tryz.prog 235 #[pt b0] w1 fun e w' => e = .returned (.tuple #[]) ∧ Q w') :
  Calls Tryz.prog 95 #[pt d, .func (.func 235) #[] #[pt b0]] w fun e w' => e = .returned (.int .i64 0) ∧ Q w' := by
 have f5 := free_of h.blk 5
 have c5 := cell_of h.blk 5 _ rfl
 have hlt := lt_of_block h.blk
 by_cases h0 : D.falls = 0
 ·have hD : { D with falls := D.falls - 1 } = D := by cases D; simp at h0 ⊢; omega
  rw [hD] at hc
  have hc0 := hc w h (Turned.refl _ _) rfl
  rw [h0] at c5
  clear h h1 hF h0 hc hD
  go_enter Tryz.func95, Tryz.ntmps95
  go_wp2_with (go_at_call 235; (with_reducible refine hc0.mono ?_); rintro e w' ⟨rfl, q⟩; replace q : Hid _ := hidS q)
  go_ret
  exact ⟨rfl, q.out⟩
 ·obtain ⟨m, hm⟩ : ∃ m, m = D.falls - 1 := ⟨_, rfl⟩
  obtain ⟨k1, k2⟩ := h.counted h1 m hm
  have hc0 := hc _ k1 k2 (setCell_size _ _ _)
  have e1 : decide ((0 : Int) < (D.falls : Int)) = true := by simp; omega
  have e2 : decide (0 < D.falls) = true := by simp; omega
  have hw : wrap64 ((D.falls : Int) - 1) = ((m : Nat) : Int) := by simp [wrap64]; omega
  have e3 : ((m : Int) == 0) = false := by simp; omega
  have e4 : (m == 0) = false := by simp; omega
  clear k1 k2 hc h1 hF h0 hm h
  generalize D.falls = q at *
  go_enter Tryz.func95, Tryz.ntmps95
  go_wp2_with (go_at_call 235; (with_reducible refine hc0.mono ?_); rintro e w' ⟨rfl, q⟩; replace q : Hid _ := hidS q)
  go_ret
  exact ⟨rfl, q.out⟩
theorem step_goes303 {w : World} {rl : Nat → Nat} {d ms mf : Nat} {pv : Value} {F : Nat → Nat} {D : Dk} (h : FsAt w rl d ms mf pv F D) (h1 : D.falls ≠ 1) (hF : D.falls ≤ 9223372036854775807) (b0 b1 b2 b3 : Nat) {Q : World → Prop}
  (hc : ∀ w1, FsAt w1 rl d ms mf pv F { D with falls := D.falls - 1 } → Turned (· = d) w w1 → w1.heap.size = w.heap.size → Calls Tryz.prog 303 #[pt b0, pt b1, pt b2, pt b3] w1 fun e w' => e = .returned (.tuple #[]) ∧ Q w') :
  Calls Tryz.prog 95 #[pt d, .func (.func 303) #[] #[pt b0, pt b1, pt b2, pt b3]] w fun e w' => e = .returned (.int .i64 0) ∧ Q w' := by
 have f5 := free_of h.blk 5
 have c5 := cell_of h.blk 5 _ rfl
 have hlt := lt_of_block h.blk
 by_cases h0 : D.falls = 0
 ·have hD : { D with falls := D.falls - 1 } = D := by cases D; simp at h0 ⊢; omega
  rw [hD] at hc
  have hc0 := hc w h (Turned.refl _ _) rfl
  rw [h0] at c5
  clear h h1 hF h0 hc hD
  go_enter Tryz.func95, Tryz.ntmps95
  go_wp2_with (go_at_call 303; (with_reducible refine hc0.mono ?_); rintro e w' ⟨rfl, q⟩; replace q : Hid _ := hidS q)
  go_ret
  exact ⟨rfl, q.out⟩
 ·obtain ⟨m, hm⟩ : ∃ m, m = D.falls - 1 := ⟨_, rfl⟩
  obtain ⟨k1, k2⟩ := h.counted h1 m hm
  have hc0 := hc _ k1 k2 (setCell_size _ _ _)
  have e1 : decide ((0 : Int) < (D.falls : Int)) = true := by simp; omega
  have e2 : decide (0 < D.falls) = true := by simp; omega
  have hw : wrap64 ((D.falls : Int) - 1) = ((m : Nat) : Int) := by simp [wrap64]; omega
  have e3 : ((m : Int) == 0) = false := by simp; omega
  have e4 : (m == 0) = false := by simp; omega
  clear k1 k2 hc h1 hF h0 hm h
  generalize D.falls = q at *
  go_enter Tryz.func95, Tryz.ntmps95
  go_wp2_with (go_at_call 303; (with_reducible refine hc0.mono ?_); rintro e w' ⟨rfl, q⟩; replace q : Hid _ := hidS q)
  go_ret
  exact ⟨rfl, q.out⟩
theorem step_goes100 {w : World} {rl : Nat → Nat} {d ms mf : Nat} {pv : Value} {F : Nat → Nat} {D : Dk} (h : FsAt w rl d ms mf pv F D) (h1 : D.falls ≠ 1) (hF : D.falls ≤ 9223372036854775807) (b0 b1 : Nat) {Q : World → Prop}
  (hc : ∀ w1, FsAt w1 rl d ms mf pv F { D with falls := D.falls - 1 } → Turned (· = d) w w1 → w1.heap.size = w.heap.size → Calls Tryz.prog 100 #[pt b0, pt b1] w1 fun e w' => e = .returned (.tuple #[]) ∧ Q w') :
  Calls Tryz.prog 95 #[pt d, .func (.func 100) #[] #[pt b0, pt b1]] w fun e w' => e = .returned (.int .i64 0) ∧ Q w' := by
 have f5 := free_of h.blk 5
 have c5 := cell_of h.blk 5 _ rfl
 have hlt := lt_of_block h.blk
 by_cases h0 : D.falls = 0
 ·have hD : { D with falls := D.falls - 1 } = D := by cases D; simp at h0 ⊢; omega
  rw [hD] at hc
  have hc0 := hc w h (Turned.refl _ _) rfl
  rw [h0] at c5
  clear h h1 hF h0 hc hD
  go_enter Tryz.func95, Tryz.ntmps95
  go_wp2_with (go_at_call 100; (with_reducible refine hc0.mono ?_); rintro e w' ⟨rfl, q⟩; replace q : Hid _ := hidS q)
  go_ret
  exact ⟨rfl, q.out⟩
 ·obtain ⟨m, hm⟩ : ∃ m, m = D.falls - 1 := ⟨_, rfl⟩
  obtain ⟨k1, k2⟩ := h.counted h1 m hm
  have hc0 := hc _ k1 k2 (setCell_size _ _ _)
  have e1 : decide ((0 : Int) < (D.falls : Int)) = true := by simp; omega
  have e2 : decide (0 < D.falls) = true := by simp; omega
  have hw : wrap64 ((D.falls : Int) - 1) = ((m : Nat) : Int) := by simp [wrap64]; omega
  have e3 : ((m : Int) == 0) = false := by simp; omega
  have e4 : (m == 0) = false := by simp; omega
  clear k1 k2 hc h1 hF h0 hm h
  generalize D.falls = q at *
  go_enter Tryz.func95, Tryz.ntmps95
  go_wp2_with (go_at_call 100; (with_reducible refine hc0.mono ?_); rintro e w' ⟨rfl, q⟩; replace q : Hid _ := hidS q)
  go_ret
  exact ⟨rfl, q.out⟩
theorem step_goes159 {w : World} {rl : Nat → Nat} {d ms mf : Nat} {pv : Value} {F : Nat → Nat} {D : Dk} (h : FsAt w rl d ms mf pv F D) (h1 : D.falls ≠ 1) (hF : D.falls ≤ 9223372036854775807) (b0 : Nat) {Q : World → Prop}
  (hc : ∀ w1, FsAt w1 rl d ms mf pv F { D with falls := D.falls - 1 } → Turned (· = d) w w1 → w1.heap.size = w.heap.size → Calls Tryz.prog 159 #[pt b0] w1 fun e w' => e = .returned (.tuple #[]) ∧ Q w') :
  Calls Tryz.prog 95 #[pt d, .func (.func 159) #[] #[pt b0]] w fun e w' => e = .returned (.int .i64 0) ∧ Q w' := by
 have f5 := free_of h.blk 5
 have c5 := cell_of h.blk 5 _ rfl
 have hlt := lt_of_block h.blk
 by_cases h0 : D.falls = 0
 ·have hD : { D with falls := D.falls - 1 } = D := by cases D; simp at h0 ⊢; omega
  rw [hD] at hc
  have hc0 := hc w h (Turned.refl _ _) rfl
  rw [h0] at c5
  clear h h1 hF h0 hc hD
  go_enter Tryz.func95, Tryz.ntmps95
  go_wp2_with (go_at_call 159; (with_reducible refine hc0.mono ?_); rintro e w' ⟨rfl, q⟩; replace q : Hid _ := hidS q)
  go_ret
  exact ⟨rfl, q.out⟩
 ·obtain ⟨m, hm⟩ : ∃ m, m = D.falls - 1 := ⟨_, rfl⟩
  obtain ⟨k1, k2⟩ := h.counted h1 m hm
  have hc0 := hc _ k1 k2 (setCell_size _ _ _)
  have e1 : decide ((0 : Int) < (D.falls : Int)) = true := by simp; omega
  have e2 : decide (0 < D.falls) = true := by simp; omega
  have hw : wrap64 ((D.falls : Int) - 1) = ((m : Nat) : Int) := by simp [wrap64]; omega
  have e3 : ((m : Int) == 0) = false := by simp; omega
  have e4 : (m == 0) = false := by simp; omega
  clear k1 k2 hc h1 hF h0 hm h
  generalize D.falls = q at *
  go_enter Tryz.func95, Tryz.ntmps95
  go_wp2_with (go_at_call 159; (with_reducible refine hc0.mono ?_); rintro e w' ⟨rfl, q⟩; replace q : Hid _ := hidS q)
  go_ret
  exact ⟨rfl, q.out⟩
theorem boxed {w w' : World} {T : Nat → Prop} {b : Nat} {o : Obj} (h : w.heap[b]? = some o) (ht : Turned T w w') (hT : ¬ T b) : w'.heap[b]? = some o := (ht.block b (lt_of_block h) hT).trans h
theorem FsPostC.after {w w1 w' : World} {rl : Nat → Nat} {d n : Nat} {D' : Dk} (h : FsPostC w1 rl d D' n w') (ht : Turned (fun b => rl b ≠ 0) w w1) : FsPostC w rl d D' n w' := by
 obtain ⟨rl', ms', mf', pv', F', h1, h2, h3⟩ := h
 exact ⟨rl', ms', mf', pv', F', h1, fun b hb => (h2 b hb).elim .inl fun q => .inr (Nat.le_trans ht.size q), ht.trans h3 fun _ _ q => q⟩
theorem FsAt.post {w w' : World} {rl : Nat → Nat} {d ms mf : Nat} {pv : Value} {F : Nat → Nat} {D' : Dk} (h : FsAt w' rl d ms mf pv F D') (ht : Turned (fun b => rl b ≠ 0) w w') : FsPost w rl d D' w' :=
 ⟨rl, ms, mf, pv, F, h, fun b hb => .inl hb, ht⟩
theorem fremove1_any {w : World} {rl : Nat → Nat} {d ms mf : Nat} {pv : Value} {F : Nat → Nat} {D : Dk} (h : FsAt w rl d ms mf pv F D) (hok : D.Ok) (hp : D.pend.length ≤ 1000000000) (name : ByteArray) (hn : name ≠ emp) (b0 b1 : Nat)
  (h0 : w.cell? ⟨b0, 0, none⟩ = some (pt d)) (h1 : w.cell? ⟨b1, 0, none⟩ = some (.string name)) :
  Calls Tryz.prog 100 #[pt b0, pt b1] w fun e w' => e = .returned (.tuple #[]) ∧ FsPost w rl d (D.change ⟨name, emp, 0⟩) w' := by
 have hc := fchange_any h hok.seenOk ⟨name, emp, 0⟩ (fun q => absurd rfl q) hp
 have e : (pcell F ⟨name, emp, 0⟩).toArray = #[.string name, .string ⟨#[]⟩, .pointer none] := by unfold pcell; rw [if_neg hn]; rfl
 rw [e] at hc
 clear h hok hp hn e
 go_enter Tryz.func100, Tryz.ntmps100
 go_wp2_with (go_at_call 97; (with_reducible refine hc.mono ?_); rintro e w' ⟨rfl, q⟩; replace q : Hid _ := hidS q)
 go_end0
 exact ⟨rfl, q.out⟩
theorem two_boxes {w : World} (o1 o2 : Obj) : Turned (fun _ => False) w ((w.alloc o1).alloc o2) ∧ ((w.alloc o1).alloc o2).heap[w.heap.size]? = some o1 ∧ ((w.alloc o1).alloc o2).heap[w.heap.size + 1]? = some o2 := by
 refine ⟨(Turned.alloc _ _ _).new _, Go.Mine.heap_alloc_old (Go.Mine.heap_alloc_new _ _), ?_⟩
 have := Go.Mine.heap_alloc_new (w.alloc o1) o2
 simpa using this
theorem then_of {w W : World} {rl : Nat → Nat} {d : Nat} {D : Dk} {f : Dk → Dk} {fv : Value} (hT : Turned (fun _ => False) w W)
  (hd : D.falls = 1 → Calls Tryz.prog 95 #[pt d, fv] W fun e w' => e = .returned (.int .i64 8) ∧ FsPost W rl d D.step.1 w')
  (hg : D.falls ≠ 1 → Calls Tryz.prog 95 #[pt d, fv] W fun e w' => e = .returned (.int .i64 0) ∧ FsPost W rl d (f { D with falls := D.falls - 1 }) w') :
  Calls Tryz.prog 95 #[pt d, fv] W fun e w' => e = .returned (.int .i64 ((D.then f).2 : Nat)) ∧ FsPost w rl d (D.then f).1 w' := by
 have hT' : Turned (fun b => rl b ≠ 0) w W := hT.mono fun _ _ q => q.elim
 by_cases h1 : D.falls = 1
 ·rw [Dk.then_dies h1]
  refine (hd h1).mono fun e w' ⟨q1, q2⟩ => ⟨q1, FsPostC.after ?_ hT'⟩
  rcases D.step_cases with ⟨z, -⟩ | ⟨-, z⟩
  ·exact absurd h1 z
  ·rw [z] at q2; exact q2
 ·rw [Dk.then_goes h1]
  exact (hg h1).mono fun e w' ⟨q1, q2⟩ => ⟨q1, FsPostC.after q2 hT'⟩
theorem FsAt.dies {w : World} {rl : Nat → Nat} {d ms mf : Nat} {pv : Value} {F : Nat → Nat} {D : Dk} (h : FsAt w rl d ms mf pv F D) (h1 : D.falls = 1) (fv : Value) :
  Calls Tryz.prog 95 #[pt d, fv] w fun e w' => e = .returned (.int .i64 8) ∧ FsPost w rl d D.step.1 w' :=
 (step_dies h h1 fv).mono fun e w' ⟨q1, q2, q3⟩ => ⟨q1, q2.post (q3.mono fun i _ q => by rw [q, h.r1]; decide)⟩
theorem FsAt.own {w w' : World} {rl : Nat → Nat} {d ms mf : Nat} {pv : Value} {F : Nat → Nat} {D : Dk} (h : FsAt w rl d ms mf pv F D) (ht : Turned (· = d) w w') : Turned (fun b => rl b ≠ 0) w w' :=
 ht.mono fun i _ q => by rw [q, h.r1]; decide
theorem dk_fell {D : Dk} (h : D.Ok) : Dk.Ok { D with falls := D.falls - 1 } := h.falls (D.falls - 1) D.off (Nat.le_trans (Nat.sub_le _ _) h.fall)
theorem fremove_any {w : World} {rl : Nat → Nat} {d ms mf : Nat} {pv : Value} {F : Nat → Nat} {D : Dk} (h : FsAt w rl d ms mf pv F D) (hok : D.Ok) (hp : D.pend.length ≤ 1000000000) (name : ByteArray) :
  Calls Tryz.prog 38 #[pt d, .string name] w fun e w' => e = .returned (.int .i64 ((D.remove name).2 : Nat)) ∧ FsPost w rl d (D.remove name).1 w' := by
 have hb := h.bnd d (by rw [h.r1]; decide)
 obtain ⟨T0, x0, x1⟩ := two_boxes (w := w) (.cells #[pt d] 33) (.cells #[.string name] 9)
 generalize hW : (w.alloc (.cells #[pt d] 33)).alloc (.cells #[.string name] 9) = W0 at T0 x0 x1
 have h' : FsAt W0 rl d ms mf pv F D := h.turned T0 fun _ _ q => q
 have hfi := ffind_any h' name
 have z0 : rl w.heap.size = 0 := by
  by_cases q : rl w.heap.size = 0
  ·exact q
  ·have := h.bnd _ q; omega
 have z1 : rl (w.heap.size + 1) = 0 := by
  by_cases q : rl (w.heap.size + 1) = 0
  ·exact q
  ·have := h.bnd _ q; omega
 cases hf : D.file name with
 | error k =>
  have HK : Hid (k ≠ 0) := file_err hf
  have HR : Hid (D.remove name = (D, k)) := hidS (by simp [Dk.remove, hf])
  have hk0 : ((k : Int) != 0) = true := by have := HK.out; simp; omega
  have HP : Hid (FsPost w rl d D W0) := h'.post (T0.mono fun _ _ q => q.elim)
  rw [hf] at hfi
  replace hfi : Calls Tryz.prog 88 #[pt d, .string name] W0 fun e w' => e = .returned (.tuple #[.pointer none, .int .i64 (k : Nat)]) ∧ W0 = w' := hfi
  subst hW
  clear h h' hf x0 x1 T0 hok z0 z1
  rw [HR.out]
  go_enter Tryz.func38, Tryz.ntmps38
  go_wp2_with (go_at_call 88; (with_reducible refine hfi.mono ?_); rintro e w' ⟨rfl, rfl⟩)
  go_ret
  exact ⟨rfl, HP.out⟩
 | ok k =>
  have hne : name ≠ emp := hok.seenOk.ne _ (Dk.file_live hf)
  have HR : Hid (D.remove name = D.then fun d => d.change ⟨name, emp, 0⟩) := hidS (by simp [Dk.remove, hf])
  have hst : Calls Tryz.prog 95 #[pt d, .func (.func 100) #[] #[pt w.heap.size, pt (w.heap.size + 1)]] W0 fun e w' => e = .returned (.int .i64 ((D.remove name).2 : Nat)) ∧ FsPost w rl d (D.remove name).1 w' := by
   rw [HR.out]
   refine then_of T0 (fun h1 => h'.dies h1 _) fun h1 => ?_
   refine step_goes100 h' h1 hok.fall _ _ fun w1 q1 q2 q3 => ?_
   have y0 := cell_of (boxed x0 q2 fun q => by rw [q, h.r1] at z0; omega) 0 _ rfl
   have y1 := cell_of (boxed x1 q2 fun q => by rw [q, h.r1] at z1; omega) 0 _ rfl
   exact (fremove1_any q1 (dk_fell hok) hp name hne _ _ y0 y1).mono fun e w' ⟨a1, a2⟩ => ⟨a1, a2.after (h'.own q2)⟩
  rw [hf] at hfi
  replace hfi : Calls Tryz.prog 88 #[pt d, .string name] W0 fun e w' => e = .returned (.tuple #[pt (F k), .int .i64 0]) ∧ W0 = w' := hfi
  subst hW
  generalize D.remove name = R at *
  clear h h' hf x0 x1 T0 hok z0 z1 hne HR
  go_enter Tryz.func38, Tryz.ntmps38
  go_wp2_with (first | (go_at_call 88; (with_reducible refine hfi.mono ?_); rintro e w' ⟨rfl, rfl⟩) | (go_at_call 95; (with_reducible refine hst.mono ?_); rintro e w' ⟨rfl, q⟩; replace q : Hid _ := hidS q))
  go_ret
  exact ⟨rfl, q.out⟩
def NewPost (w : World) (q : Int) (e : Ending) (w' : World) : Prop :=
 (newDk q = none ∧ e = .returned (.tuple #[.pointer none, .int .i64 1]) ∧ w' = w) ∨
 ∃ D d, newDk q = some D ∧ e = .returned (.tuple #[pt d, .int .i64 0]) ∧ FsIs w' (fun b => w.heap.size ≤ b) d D ∧ Turned (fun _ => False) w w'
theorem new_at {w : World} (q : Nat) : FsAt (((w.alloc (.map #[] 0)).alloc (.map #[] 0)).alloc (.cells #[.int .i64 (q : Nat), .int .i64 0, .map (some w.heap.size), .map (some (w.heap.size + 1)), .slice none 0 0, .int .i64 0, .bool false] 148))
  (fun b => if b = w.heap.size + 1 + 1 then 1 else if b = w.heap.size then 2 else if b = w.heap.size + 1 then 3 else 0) (w.heap.size + 1 + 1) w.heap.size (w.heap.size + 1) (.slice none 0 0) (fun _ => 0) ⟨q, [], [], [], [], 0, false⟩ := by
 obtain ⟨-, x0, x1⟩ := two_boxes (w := w) (.map #[] 0) (.map #[] 0)
 have y0 := Go.Mine.heap_alloc_old (o := .cells #[.int .i64 (q : Nat), .int .i64 0, .map (some w.heap.size), .map (some (w.heap.size + 1)), .slice none 0 0, .int .i64 0, .bool false] 148) x0
 have y1 := Go.Mine.heap_alloc_old (o := .cells #[.int .i64 (q : Nat), .int .i64 0, .map (some w.heap.size), .map (some (w.heap.size + 1)), .slice none 0 0, .int .i64 0, .bool false] 148) x1
 have y2 := Go.Mine.heap_alloc_new ((w.alloc (.map #[] 0)).alloc (.map #[] 0)) (.cells #[.int .i64 (q : Nat), .int .i64 0, .map (some w.heap.size), .map (some (w.heap.size + 1)), .slice none 0 0, .int .i64 0, .bool false] 148)
 have hz : ((w.alloc (.map #[] 0)).alloc (.map #[] 0)).heap.size = w.heap.size + 1 + 1 := by simp
 rw [hz] at y2
 have em : ∀ v, mapN (fun _ => 0) ([] : Nms) v = none := fun v => by cases v <;> rfl
 have r2 : (fun b => if b = w.heap.size + 1 + 1 then 1 else if b = w.heap.size then 2 else if b = w.heap.size + 1 then 3 else 0) w.heap.size = 2 := by
  simp only []
  rw [if_neg (by omega), if_pos trivial]
 have r3 : (fun b => if b = w.heap.size + 1 + 1 then 1 else if b = w.heap.size then 2 else if b = w.heap.size + 1 then 3 else 0) (w.heap.size + 1) = 3 := by
  simp only []
  rw [if_neg (by omega), if_neg (by omega), if_pos trivial]
 refine ⟨by simp, r2, r3, by simpa [Blk] using y2, ⟨#[], 0, y0, by simp, by simp, (fun k v hv => by rw [em] at hv; cases hv), by simp, rfl⟩, ⟨#[], 0, y1, by simp, by simp, (fun k v hv => by rw [em] at hv; cases hv), by simp, rfl⟩, Sl.nil _ _ _ _, ?_, ?_, ⟨#[], 0, y0, by simp, by simp⟩, ⟨#[], 0, y1, by simp, by simp⟩⟩
 ·rintro k (⟨x, hx, -⟩ | ⟨x, hx, -⟩ | ⟨x, hx, -⟩) <;> simp at hx
 ·intro b hb
  have hz2 := lt_of_block y2
  by_cases q1 : b = w.heap.size + 1 + 1
  ·omega
  ·by_cases q2 : b = w.heap.size
   ·omega
   ·by_cases q3 : b = w.heap.size + 1
    ·omega
    ·simp [q1, q2, q3] at hb
theorem fnew_any (q : Int) (w : World) : Calls Tryz.prog 24 #[.int .i64 q] w (NewPost w q) := by
 obtain ⟨P, hP⟩ : ∃ P, P = NewPost w q := ⟨_, rfl⟩
 have HP : Hid (P = NewPost w q) := hP
 rw [← hP]
 clear hP
 have hmm := @run_makeMap Tryz.prog
 by_cases h1 : q < 0
 ·have HN : Hid (newDk q = none) := hidS (by simp [newDk, h1])
  have e1 : decide (q < 0) = true := decide_eq_true h1
  clear h1
  go_enter Tryz.func24, Tryz.ntmps24
  go_wp2
  rw [HP.out]
  exact .inl ⟨HN.out, rfl, rfl⟩
 by_cases h2 : 16777216 < q
 ·have HN : Hid (newDk q = none) := hidS (by simp [newDk, h2])
  have e1 : decide (q < 0) = false := decide_eq_false h1
  have e2 : decide ((16777216 : Int) < q) = true := decide_eq_true h2
  clear h1 h2
  go_enter Tryz.func24, Tryz.ntmps24
  go_wp2
  rw [HP.out]
  exact .inl ⟨HN.out, rfl, rfl⟩
 ·obtain ⟨m, rfl⟩ : ∃ m : Nat, q = (m : Nat) := ⟨q.toNat, by omega⟩
  have HN : Hid (newDk (m : Nat) = some ⟨m, [], [], [], [], 0, false⟩) := hidS (by
   unfold newDk
   rw [if_neg (by rintro (z | z) <;> omega)]
   simp)
  have e1 : decide ((m : Int) < 0) = false := decide_eq_false h1
  have e2 : decide ((16777216 : Int) < (m : Int)) = false := decide_eq_false h2
  have e3 : decide (16777216 < m) = false := decide_eq_false (by omega)
  clear h1 h2
  go_enter Tryz.func24, Tryz.ntmps24
  go_wp2
  rw [HP.out]
  refine .inr ⟨_, w.heap.size + 1 + 1, HN.out, rfl, ⟨_, _, _, _, _, new_at m, fun b hb => ?_⟩, ((Turned.alloc _ _ _).new _).new _⟩
  by_cases q1 : b = w.heap.size + 1 + 1
  ·omega
  ·by_cases q2 : b = w.heap.size
   ·omega
   ·by_cases q3 : b = w.heap.size + 1
    ·omega
    ·simp [q1, q2, q3] at hb
theorem FsAt.tset {w w' : World} {rl : Nat → Nat} {d ms mf : Nat} {pv : Value} {F : Nat → Nat} {D : Dk} {k : Nat} (h : FsAt w rl d ms mf pv F D) (hf : rl (F k) = 5 + 2 * k) (ht : Turned (fun b => b = F k ∨ rl b = 6 + 2 * k) w w') : Turned (fun b => rl b ≠ 0) w w' :=
 ht.mono fun i _ q => q.elim (fun q => by rw [q, hf]; omega) fun q => by omega
theorem FsAt.setPost {w w' : World} {rl : Nat → Nat} {d ms mf : Nat} {pv : Value} {F : Nat → Nat} {D : Dk} (h : FsAt w rl d ms mf pv F D) {k : Nat} {x y : Fl} (hk : D.files[k]? = some x) (hf : FileAt w rl F k x) {bv : Value}
  (ht : Turned (fun b => b = F k ∨ rl b = 6 + 2 * k) w w') (hb : Blk w' (F k) #[.int .i64 (k : Nat), bv, .int .i64 (y.safe : Nat)] 157)
  (hs : Sl w' (fun b => rl b = 6 + 2 * k ∨ w.heap.size ≤ b) 5 1 bv (bcells y.bytes.data.toList) y.bytes.size) : FsPost w rl d (D.setF k y) w' :=
 ⟨_, ms, mf, pv, F, h.setAt hk hf ht hb (sl_widenB hs fun b hb q => q.elim (fun q => (newR_old (h.bnd b (by omega))).trans q) fun q => newR_new q hb), fun b hb => newR_or hb, h.tset hf.1 ht⟩
theorem FsPostC.draw {w w' : World} {rl : Nat → Nat} {d n : Nat} {D' : Dk} (h : FsPostC w rl d D' n w') : FsPostC w rl d D' n w'.drew := by
 obtain ⟨rl', ms', mf', pv', F', h1, h2, h3⟩ := h
 exact ⟨rl', ms', mf', pv', F', h1.turned (Turned.drew (fun _ => False) _) fun _ _ q => q, h2, h3.draw⟩
theorem fsync1_any {w : World} {rl : Nat → Nat} {d ms mf : Nat} {pv : Value} {F : Nat → Nat} {D : Dk} (h : FsAt w rl d ms mf pv F D) {k : Nat} {x : Fl} (hk : D.files[k]? = some x) (hf : FileAt w rl F k x) (b0 : Nat)
  (h0 : w.cell? ⟨b0, 0, none⟩ = some (pt (F k))) :
  Calls Tryz.prog 235 #[pt b0] w fun e w' => e = .returned (.tuple #[]) ∧ FsPost w rl d (D.setF k ⟨x.bytes, x.bytes.size⟩) w' := by
 obtain ⟨hr, bv, hb, hs⟩ := hf
 obtain ⟨a, cap, hbv, -, -⟩ := hs.value
 subst hbv
 have c1 := cell_of hb 1 _ rfl
 have c2 := cell_of hb 2 _ rfl
 have f2 := free_of hb 2
 have hlt := lt_of_block hb
 have key : Hid (FsPost w rl d (D.setF k ⟨x.bytes, x.bytes.size⟩) (w.setCell ⟨F k, 2, none⟩ (.int .i64 (x.bytes.size : Nat)))) := hidS (by
  have t : Turned (· = F k) w (w.setCell ⟨F k, 2, none⟩ (.int .i64 (x.bytes.size : Nat))) := Turned.setCell (S := (· = F k)) (p := ⟨F k, 2, none⟩) rfl _
  refine h.setPost hk ⟨hr, _, hb, hs⟩ (t.mono fun i _ q => .inl q) (bv := .slice a x.bytes.size cap) ?_ ?_
  ·have := Go.Mine.heap_setCell_same hb (o := 2) (.int .i64 (x.bytes.size : Nat))
   simpa [Blk] using this
  ·exact (hs.turned t fun b hb q => by rw [q, hr] at hb; omega).widen fun b q => .inl q)
 clear h hk hs hb hr
 go_enter Tryz.func235, Tryz.ntmps235
 go_region
 all_goals go_wp2
 all_goals go_end0
 all_goals first | exact ⟨rfl, key.out⟩ | exact ⟨rfl, key.out.draw⟩
theorem frename1_any {w : World} {rl : Nat → Nat} {d ms mf : Nat} {pv : Value} {F : Nat → Nat} {D : Dk} (h : FsAt w rl d ms mf pv F D) (hok : D.Ok) (hp : D.pend.length ≤ 1000000000) (a b : ByteArray) (ha : a ≠ emp) (hb : b ≠ emp) {k : Nat} {x : Fl} (hk : D.files[k]? = some x) (hf : FileAt w rl F k x) (b0 b1 b2 b3 : Nat)
  (h0 : w.cell? ⟨b0, 0, none⟩ = some (.string a)) (h1 : w.cell? ⟨b1, 0, none⟩ = some (.string b)) (h2 : w.cell? ⟨b2, 0, none⟩ = some (pt d)) (h3 : w.cell? ⟨b3, 0, none⟩ = some (pt (F k))) :
  Calls Tryz.prog 303 #[pt b0, pt b1, pt b2, pt b3] w fun e w' => e = .returned (.tuple #[]) ∧ FsPost w rl d (if a = b then D else D.change ⟨a, b, k⟩) w' := by
 by_cases hab : a = b
 ·subst hab
  have HP : Hid (FsPost w rl d D w) := h.post (Turned.refl _ _)
  have hbeq : (a.toList == a.toList) = true := by simp
  rw [if_pos rfl]
  clear h hok hp hk hf
  go_enter Tryz.func303, Tryz.ntmps303
  go_wp2
  go_end0
  exact ⟨rfl, HP.out⟩
 ·have hc := fchange_any h hok.seenOk ⟨a, b, k⟩ (fun _ => ⟨x, hk, hf⟩) hp
  have e : (pcell F ⟨a, b, k⟩).toArray = #[.string a, .string b, pt (F k)] := by unfold pcell; rw [if_neg ha, if_neg hb]
  have hbeq : (a.toList == b.toList) = false := by
   rw [ByteArray.toList_eq, ByteArray.toList_eq]
   simp only [beq_eq_false_iff_ne, ne_eq]
   exact fun q => hab (ByteArray.ext (Array.toList_inj.1 q))
  rw [e] at hc
  rw [if_neg hab]
  clear h hok hp hk hf e hab ha hb
  go_enter Tryz.func303, Tryz.ntmps303
  go_wp2_with (go_at_call 97; (with_reducible refine hc.mono ?_); rintro e w' ⟨rfl, q⟩; replace q : Hid _ := hidS q)
  go_end0
  exact ⟨rfl, q.out⟩
theorem cell_at {w w' : World} {T : Nat → Prop} {b o : Nat} {v : Value} (h : w.cell? ⟨b, o, none⟩ = some v) (ht : Turned T w w') (hT : ¬ T b) : w'.cell? ⟨b, o, none⟩ = some v :=
 (World.cell?_of_block (w := w) (w' := w') (a := ⟨b, o, none⟩) (ht.block b (lt_of_cell h) hT)).trans h
theorem bsize (s : ByteArray) : s.data.toList.length = s.size := by rw [Array.length_toList]; rfl
set_option maxHeartbeats 1000000 in
theorem fappend1_any {w : World} {rl : Nat → Nat} {d ms mf : Nat} {pv : Value} {F : Nat → Nat} {D : Dk} (h : FsAt w rl d ms mf pv F D) {k : Nat} {x : Fl} (hk : D.files[k]? = some x) (hf : FileAt w rl F k x) (text : ByteArray)
  (hl : x.bytes.size + text.size ≤ 1000000000) (b0 b1 : Nat) (z0 : rl b0 = 0) (z1 : rl b1 = 0) (h0 : w.cell? ⟨b0, 0, none⟩ = some (pt (F k))) (h1 : w.cell? ⟨b1, 0, none⟩ = some (.string text)) :
  Calls Tryz.prog 98 #[pt b0, pt b1] w fun e w' => e = .returned (.tuple #[]) ∧ FsPost w rl d (D.setF k ⟨x.bytes ++ text, x.safe⟩) w' := by
 have H : Hid (FsAt w rl d ms mf pv F D ∧ D.files[k]? = some x ∧ FileAt w rl F k x) := ⟨h, hk, hf⟩
 obtain ⟨hr, bv, hb, hs⟩ := hf
 obtain ⟨a, cap, hbv, -, -⟩ := hs.value
 subst hbv
 have c1 := cell_of hb 1 _ rfl
 have f1 := free_of hb 1
 have hlt := lt_of_block hb
 obtain ⟨n, hn⟩ : ∃ n, n = x.bytes.size := ⟨_, rfl⟩
 have HN : Hid (n = x.bytes.size) := hn
 rw [← hn] at c1
 have HSL : Hid (Sl w.drew (fun b => rl b = 6 + 2 * k) 5 1 (.slice a n cap) (bcells x.bytes.data.toList) n) := by rw [hn]; exact hs.drew
 have HSRC : Hid (Src Tryz.prog 1 9 (.string text) text.size (byteCells text) w.drew) := Src.ofString w.drew Tryz.underlying9 text
 have m1 : Hid (n + text.size ≤ maxLen ∧ (n + text.size) * 1 ≤ 140737488355328) := hidS ⟨by rw [hn]; simp only [maxLen]; omega, by rw [hn]; omega⟩
 have K2 : Hid (∀ w2 : World, Turned (fun b => rl b = 6 + 2 * k) w.drew w2 → w2.heap[F k]? = some (.cells #[.int .i64 (k : Nat), .slice a n cap, .int .i64 (x.safe : Nat)] 157) ∧ w2.cell? ⟨F k, 1, none⟩ = some (.slice a n cap) ∧ w2.frozen? ⟨F k, 1, none⟩ = false ∧ F k < w2.heap.size ∧ w2.cell? ⟨b0, 0, none⟩ = some (pt (F k)) ∧ w2.cell? ⟨b1, 0, none⟩ = some (.string text)) := hidS fun w2 ht => by
  have hb2 : w2.heap[F k]? = _ := (ht.block (F k) hlt (by rw [hr]; omega)).trans hb
  rw [← hn] at hb2
  have e0 := ht.block b0 (lt_of_cell h0) (by rw [z0]; omega)
  have e1 := ht.block b1 (lt_of_cell h1) (by rw [z1]; omega)
  exact ⟨hb2, cell_of hb2 1 _ rfl, free_of hb2 1, lt_of_block hb2, (World.cell?_of_block (w := w) (w' := w2) (a := ⟨b0, 0, none⟩) e0).trans h0, (World.cell?_of_block (w := w) (w' := w2) (a := ⟨b1, 0, none⟩) e1).trans h1⟩
 clear h hk hs hb hl hn hr z0 z1
 go_enter Tryz.func98, Tryz.ntmps98
 go_region_law ((refine step_append (by rfl) _ _ 83 9 (by rfl) HSL.out Tryz.underlying83 info5 rfl (by decide) (by rfl) (.string text) (by rfl) HSRC.out m1.out.1 m1.out.2 ?_; intro v' w2 hsl ht2; obtain ⟨a3, cap3, hv3, -, -⟩ := hsl.value; subst hv3; obtain ⟨q1, q2, q3, q4, q5, q6⟩ := K2.out w2 ht2; replace q1 : Hid _ := hidS q1; have HQ : Hid (Sl w2 _ 5 1 _ _ (n + text.size) ∧ Turned _ _ w2) := ⟨hsl, ht2⟩; clear hsl ht2))
 all_goals go_wp2
 all_goals go_end0
 all_goals
  refine ⟨rfl, ?_⟩
  obtain ⟨hh, hk, hf⟩ := H.out
  obtain ⟨s1, s2⟩ := HQ.out
  have t2 : Turned (· = F k) w2 (w2.setCell ⟨F k, 1, none⟩ (.slice a3 (n + text.size) cap3)) := Turned.setCell (S := (· = F k)) (p := ⟨F k, 1, none⟩) rfl _
  have T : Turned (fun b => b = F k ∨ rl b = 6 + 2 * k) w (w2.setCell ⟨F k, 1, none⟩ (.slice a3 (n + text.size) cap3)) := ((Turned.drew (fun _ => False) w).comp s2 (T := fun b => rl b = 6 + 2 * k) fun i _ q => q.elim False.elim id).comp t2 fun i _ q => q.elim .inr .inl
  refine hh.setPost hk hf T (bv := .slice a3 (n + text.size) cap3) ?_ ?_
  ·have := Go.Mine.heap_setCell_same q1.out (o := 1) (.slice a3 (n + text.size) cap3)
   simpa [Blk] using this
  ·have e1 : bcells (x.bytes ++ text).data.toList = bcells x.bytes.data.toList ++ byteCells text := by rw [byteCells_eq, ← bcells_append]; simp
   have e2 : (x.bytes ++ text).size = n + text.size := by rw [ByteArray.size_append, HN.out]
   rw [e1, e2]
   have hrr := hf.1
   have hsz : w.drew.heap.size = w.heap.size := rfl
   exact (s1.turned t2 fun b hb q => by rcases hb with hb | hb <;> (rw [q] at hb; omega)).widen fun b hb => hb
end Go.Proofs.YtofcogekgcgjhaaGreatDoor
