/- Packed. -/
import Derived.Deep.RegionHeld3
import Derived.Test.YtofcogekgcgjhaaGreatDoorZzap
set_option linter.unusedVariables false
set_option linter.unusedSimpArgs false
set_option maxRecDepth 100000
namespace Go.Proofs.YtofcogekgcgjhaaGreatDoor
open Go.RowKit Go.Mine Go.Mine.Ac
theorem FsPostC.from {w W w' : World} {rl rl' : Nat → Nat} {d n : Nat} {D' : Dk} (h : FsPostC W rl' d D' n w') (hr : ∀ b, rl' b ≠ 0 → rl b ≠ 0 ∨ w.heap.size ≤ b) (ht : Turned (fun b => rl b ≠ 0) w W) : FsPostC w rl d D' n w' := by
 obtain ⟨r2, ms', mf', pv', F', h1, h2, h3⟩ := h
 refine ⟨r2, ms', mf', pv', F', h1, fun b hb => (h2 b hb).elim (hr b) fun q => .inr (Nat.le_trans ht.size q), ht.comp h3 fun i hi q => q.elim id fun q => (hr i q).elim id fun q => by omega⟩
theorem FsPostC.count {w w' : World} {rl : Nat → Nat} {d n : Nat} {D' : Dk} (h : FsPostC w rl d D' n w') (hd : rl d ≠ 0) (m : Nat) : FsPostC w rl d D' m (w'.setCell ⟨d, 1, none⟩ (.int .i64 (m : Nat))) := by
 obtain ⟨r2, ms', mf', pv', F', h1, h2, h3⟩ := h
 have t : Turned (· = d) w' (w'.setCell ⟨d, 1, none⟩ (.int .i64 (m : Nat))) := Turned.setCell (S := (· = d)) (p := ⟨d, 1, none⟩) rfl _
 have r1 := h1.r1
 have hne : ∀ b, r2 b ≠ 1 → ¬ b = d := fun b hb q => hb (q ▸ r1)
 refine ⟨r2, ms', mf', pv', F', ⟨h1.r1, h1.r2, h1.r3, ?_, h1.seen.congr (t.block _ h1.seen.lt (hne _ (by rw [h1.r2]; decide))) fun _ => rfl, h1.safe.congr (t.block _ h1.safe.lt (hne _ (by rw [h1.r3]; decide))) fun _ => rfl,
  h1.pend.turned t fun b hb => hne b (by omega), fun k hk => ?_, fun b hb => by rw [setCell_size]; exact h1.bnd b hb, h1.bs.congr (t.block _ h1.seen.lt (hne _ (by rw [h1.r2]; decide))), h1.bf.congr (t.block _ h1.safe.lt (hne _ (by rw [h1.r3]; decide)))⟩, h2, h3.comp t fun i _ q => q.elim id fun q => q ▸ hd⟩
 ·have := Go.Mine.heap_setCell_same h1.blk (o := 1) (.int .i64 (m : Nat))
  simpa [Blk] using this
 ·obtain ⟨x, e1, e2⟩ := h1.file k hk
  exact ⟨x, e1, e2.turned t fun b hb => hne b (by omega)⟩
theorem FsPostC.counter {w w' : World} {rl : Nat → Nat} {d n : Nat} {D' : Dk} (h : FsPostC w rl d D' n w') : w'.cell? ⟨d, 1, none⟩ = some (.int .i64 (n : Nat)) ∧ w'.frozen? ⟨d, 1, none⟩ = false ∧ d < w'.heap.size := by
 obtain ⟨r2, ms', mf', pv', F', h1, h2, h3⟩ := h
 exact ⟨cell_of h1.blk 1 _ rfl, free_of h1.blk 1, lt_of_block h1.blk⟩
set_option maxHeartbeats 1000000 in
theorem fcreate1_any {w : World} {rl : Nat → Nat} {d ms mf : Nat} {pv : Value} {F : Nat → Nat} {D : Dk} (h : FsAt w rl d ms mf pv F D) (hok : D.Ok) (hp : D.pend.length ≤ 1000000000) (hfl : D.files.length ≤ 1000000000) (name : ByteArray) (b0 b1 : Nat) (z0 : rl b0 = 0) (z1 : rl b1 = 0)
  (h0 : w.cell? ⟨b0, 0, none⟩ = some (pt d)) (h1 : w.cell? ⟨b1, 0, none⟩ = some (.string name)) (hne : name ≠ emp) :
  Calls Tryz.prog 96 #[pt b0, pt b1] w fun e w' => e = .returned (.tuple #[]) ∧ FsPost w rl d (Dk.change { D with files := D.files ++ [⟨emp, 0⟩] } ⟨emp, name, D.files.length⟩) w' := by
 obtain ⟨n, hn⟩ : ∃ n, n = D.files.length := ⟨_, rfl⟩
 have hd := h.bnd d (by rw [h.r1]; decide)
 have rd : rl d ≠ 0 := by rw [h.r1]; decide
 have c1 := cell_of h.blk 1 _ rfl
 have lb0 := lt_of_cell h0
 have lb1 := lt_of_cell h1
 have HCA : Hid (∀ W, Turned (fun _ => False) w W → W.heap[w.heap.size]? = some (.cells #[.int .i64 (n : Nat), .slice none 0 0, .int .i64 0] 157) →
   Calls Tryz.prog 97 #[pt d, .agg #[.string name, .string name, pt w.heap.size]] W fun e w' => e = .returned (.tuple #[]) ∧ FsPostC w rl d (Dk.change { D with files := D.files ++ [⟨emp, 0⟩] } ⟨emp, name, n⟩) n w' ∧ w'.cell? ⟨b0, 0, none⟩ = some (pt d) ∧ w'.cell? ⟨b1, 0, none⟩ = some (.string name)) := hidS fun W hW hB => by
  rw [hn] at hB
  obtain ⟨k1, k2⟩ := h.moreAt hW (f := w.heap.size) (Nat.le_refl _) hB
  have hc := fchange_any k1 (hok.more.seenOk) ⟨emp, name, D.files.length⟩ (fun _ => ⟨⟨emp, 0⟩, by simp, k2⟩) hp
  have e : (pcell (fun k => if k = D.files.length then w.heap.size else F k) ⟨emp, name, D.files.length⟩).toArray = #[.string name, .string name, pt w.heap.size] := by unfold pcell; simp [hne]
  rw [e] at hc
  refine hc.mono fun e w' ⟨q1, q2⟩ => ⟨q1, ?_, ?_, ?_⟩
  ·rw [hn]
   refine q2.from (fun b hb => ?_) (hW.mono fun _ _ q => q.elim)
   by_cases q : b = w.heap.size
   ·exact .inr (by omega)
   ·exact .inl (by simpa [q] using hb)
  ·obtain ⟨r2, ms', mf', pv', F', -, -, h3⟩ := q2
   refine cell_at (cell_at h0 hW id) h3 fun q => ?_
   have := lt_of_cell h0
   simp only [show ¬ b0 = w.heap.size by omega, if_false] at q
   exact q z0
  ·obtain ⟨r2, ms', mf', pv', F', -, -, h3⟩ := q2
   refine cell_at (cell_at h1 hW id) h3 fun q => ?_
   have := lt_of_cell h1
   simp only [show ¬ b1 = w.heap.size by omega, if_false] at q
   exact q z1
 have KS : Hid (∀ W, Turned (fun _ => False) w W → W.cell? ⟨b0, 0, none⟩ = some (pt d) ∧ W.cell? ⟨b1, 0, none⟩ = some (.string name) ∧ W.cell? ⟨d, 1, none⟩ = some (.int .i64 (n : Nat))) := hidS fun W ht => ⟨cell_at h0 ht id, cell_at h1 ht id, cell_at (by rw [hn]; exact c1) ht id⟩
 have HN : Hid (n = D.files.length) := hn
 rw [← hn] at c1
 have hw : wrap64 ((n : Int) + 1) = ((n + 1 : Nat) : Int) := by simp [wrap64]; omega
 have KF : Hid (∀ w2, FsPostC w rl d (Dk.change { D with files := D.files ++ [⟨emp, 0⟩] } ⟨emp, name, n⟩) n w2 → FsPost w rl d (Dk.change { D with files := D.files ++ [⟨emp, 0⟩] } ⟨emp, name, D.files.length⟩) (w2.setCell ⟨d, 1, none⟩ (.int .i64 ((n + 1 : Nat) : Int)))) := hidS fun w2 hq => by
  have := hq.count rd (n + 1)
  rw [hn] at this ⊢
  have e : (Dk.change { D with files := D.files ++ [(⟨emp, 0⟩ : Fl)] } ⟨emp, name, D.files.length⟩).files.length = D.files.length + 1 := by simp [Dk.change]
  unfold FsPost
  rw [e]
  exact this
 clear h hok hp hfl z0 z1 hne hn
 go_enter Tryz.func96, Tryz.ntmps96
 go_wp2
 go_region_held3 (fun W => W.cell? ⟨b0, 0, none⟩ = some (pt d) ∧ W.cell? ⟨b1, 0, none⟩ = some (.string name) ∧ W.cell? ⟨d, 1, none⟩ = some (.int .i64 (n : Nat)))
  (first | (exact ⟨by assumption, by assumption, by assumption⟩) | (exact KS.out _ (by first | exact Turned.alloc _ _ _ | exact (Turned.alloc _ _ _).draw | exact ((Turned.refl _ _).draw).new _ | exact Turned.drew _ _)) | go_keep)
  (first | (go_at_call 97; refine (HCA.out _ ?_ ?_).mono ?_; (first | exact Turned.alloc _ _ _ | exact (Turned.alloc _ _ _).draw | exact ((Turned.refl _ _).draw).new _ | exact (((Turned.refl _ _).draw).new _).draw); (exact heap_alloc_new _ _); rintro e w2 ⟨rfl, q1, q2, q6⟩; obtain ⟨q3, q4, q5⟩ := q1.counter; replace q1 : Hid _ := hidS q1))
 go_wp2
 go_end0
 exact ⟨rfl, KF.out _ q1.out⟩
theorem info244 : (Tryz.prog.info? 244).map (fun i => (i.zero, i.size, i.bytes)) = some (some (.agg #[.string ⟨#[]⟩, .int .i64 0]), 2, 24) := by kernel_rfl
theorem changed_none {l : Nms} (h : ∀ x ∈ l, x.1 ≠ emp) : changed l ⟨emp, emp, 0⟩ = l := by
 unfold changed
 simp only [if_true, List.append_nil]
 rw [List.filter_eq_self]
 intro x hx
 simp [h x hx]
section
variable {w : World} {rl : Nat → Nat} {r : Nat} {fv sv av pv : Value} {D : Dk}
theorem RkAt.setSafe {w2 : World} {v2 : Value} (h : RkAt w rl r fv sv av pv D) (ht : Turned (fun _ => False) w w2) (hs : Sl w2 (fun b => w.heap.size ≤ b) 242 2 v2 (ncellsR D.seen) D.seen.length) :
  RkPost w rl r { D with safe := D.seen, pend := [] } ((w2.setCell ⟨r, 3, none⟩ v2).setCell ⟨r, 4, none⟩ (.slice none 0 0)) := by
 have t2 : Turned (· = r) w2 ((w2.setCell ⟨r, 3, none⟩ v2).setCell ⟨r, 4, none⟩ (.slice none 0 0)) := ((Turned.refl (· = r) w2).set (p := ⟨r, 3, none⟩) rfl _).set (p := ⟨r, 4, none⟩) rfl _
 have T : Turned (· = r) w ((w2.setCell ⟨r, 3, none⟩ v2).setCell ⟨r, 4, none⟩ (.slice none 0 0)) := ht.comp t2 fun i _ q => q.elim False.elim id
 have K := h.keepR w2 4
 have r1 := h.r1
 have hne : ∀ b, rl b ≠ 0 → rl b ≠ 1 → ¬ b = r := fun b _ hb q => hb (q ▸ r1)
 have hlt := h.bnd r (by rw [r1]; decide)
 have hsz : ((w2.setCell ⟨r, 3, none⟩ v2).setCell ⟨r, 4, none⟩ (.slice none 0 0)).heap.size = w2.heap.size := by rw [setCell_size, setCell_size]
 refine ⟨newR rl w w2 4, fv, sv, v2, .slice none 0 0, ⟨(K _ (by omega)).trans r1, ?_, ?_, ?_, ?_, Sl.nil _ _ _ _, fun b hb => by rw [hsz]; exact newR_bnd hb ht.size⟩, fun b hb => newR_or hb, h.mine T⟩
 ·have hb : w2.heap[r]? = _ := (ht.block r hlt id).trans h.blk
  have q1 := Go.Mine.heap_setCell_same hb (o := 3) v2
  have q2 := Go.Mine.heap_setCell_same q1 (o := 4) (.slice none 0 0)
  simpa [Blk] using q2
 ·exact (h.files.turned T fun b hb => hne b (by omega) (by omega)).widen fun b hb => (K b (by omega)).trans hb
 ·exact (h.seen.turned T fun b hb => hne b (by omega) (by omega)).widen fun b hb => (K b (by omega)).trans hb
 ·exact sl_widenB (hs.turned t2 fun b hb q => by omega) fun b hb q => newR_new q (by rw [hsz] at hb; exact hb)
theorem RkAt.addFile {w3 : World} {v' : Value} {o : Obj} (h : RkAt w rl r fv sv av pv D) (h3 : Turned (fun b => rl b = 2) (w.alloc o) w3)
  (hs : Sl w3 (More (fun b => rl b = 2) (w.alloc o)) 244 2 v' (fcellsR D.files ++ [.string ⟨#[]⟩, .int .i64 0]) (D.files.length + 1)) :
  RkAt (w3.setCell ⟨r, 1, none⟩ v') (newR rl w w3 2) r v' sv av pv { D with files := D.files ++ [⟨emp, 0⟩] } ∧ Turned (fun b => rl b ≠ 0) w (w3.setCell ⟨r, 1, none⟩ v') := by
 have r1 := h.r1
 have T3 : Turned (fun b => rl b = 2) w w3 := (Turned.alloc (fun b => rl b = 2) w o).trans h3 fun _ _ q => q
 have t2 : Turned (· = r) w3 (w3.setCell ⟨r, 1, none⟩ v') := Turned.setCell (S := (· = r)) (p := ⟨r, 1, none⟩) rfl _
 have T : Turned (fun b => b = r ∨ rl b = 2) w (w3.setCell ⟨r, 1, none⟩ v') := T3.comp t2 fun i _ q => q.elim .inr .inl
 have K := h.keepR w3 2
 have hlt := h.bnd r (by rw [r1]; decide)
 have hne : ∀ b, rl b ≠ 0 → rl b ≠ 1 → rl b ≠ 2 → ¬ (b = r ∨ rl b = 2) := fun b _ h1 h5 q => q.elim (fun q => h1 (q ▸ r1)) h5
 have es : (w.alloc o).heap.size = w.heap.size + 1 := by simp
 refine ⟨⟨(K _ (by omega)).trans r1, ?_, ?_, ?_, ?_, ?_, fun b hb => by rw [setCell_size]; exact newR_bnd hb T3.size⟩, T.mono fun i _ q => q.elim (fun q => by rw [q, r1]; decide) fun q => by omega⟩
 ·have hb : w3.heap[r]? = _ := (T3.block r hlt (by rw [r1]; decide)).trans h.blk
  have := Go.Mine.heap_setCell_same hb (o := 1) v'
  simpa [Blk] using this
 ·show Sl _ _ 244 2 v' (fcellsR (D.files ++ [⟨emp, 0⟩])) (D.files ++ [(⟨emp, 0⟩ : Fl)]).length
  rw [fcellsR_app, List.length_append]
  have : fcellsR [⟨emp, 0⟩] = [.string ⟨#[]⟩, .int .i64 0] := rfl
  rw [this]
  refine sl_widenB (hs.turned t2 fun b hb q => ?_) fun b hb q => ?_
  ·rcases hb with hb | hb
   ·rw [q, r1] at hb; omega
   ·omega
  ·rcases q with q | q
   ·exact (newR_old (h.bnd b (by omega))).trans q
   ·exact newR_new (by omega) (by rw [setCell_size] at hb; exact hb)
 ·exact (h.seen.turned T fun b hb => hne b (by omega) (by omega) (by omega)).widen fun b hb => (K b (by omega)).trans hb
 ·exact (h.safe.turned T fun b hb => hne b (by omega) (by omega) (by omega)).widen fun b hb => (K b (by omega)).trans hb
 ·exact (h.pend.turned T fun b hb => hne b (by omega) (by omega) (by omega)).widen fun b hb => (K b (by omega)).trans hb
end
theorem ksyncNames_any {w : World} {rl : Nat → Nat} {r : Nat} {fv sv av pv : Value} {D : Dk} (h : RkAt w rl r fv sv av pv D) (hok : D.Ok) :
  Calls Tryz.prog 184 #[pt r] w fun e w' => e = .returned (.int .i64 (D.syncNames.2 : Nat)) ∧ RkPost w rl r D.syncNames.1 w' := by
 have c6 := cell_of h.blk 6 _ rfl
 have hlt := lt_of_block h.blk
 cases ho : D.off with
 | true =>
  have HR : Hid (D.syncNames = (D, 8)) := hidS (by simp [Dk.syncNames, ho])
  have HP : Hid (RkPost w rl r D w) := h.post (Turned.refl _ _)
  rw [ho] at c6
  rw [HR.out]
  clear h hok ho
  go_enter Tryz.func184, Tryz.ntmps184
  go_wp2
  go_ret
  exact ⟨rfl, HP.out⟩
 | false =>
  have HR : Hid (D.syncNames = D.then fun d => { d with safe := d.seen, pend := [] }) := hidS (by simp [Dk.syncNames, ho])
  obtain ⟨k1, k2⟩ := kstep_two h hok
  rw [ho] at c6
  by_cases h1 : D.falls = 1
  ·have hst := k1 h1 w (Turned.refl _ _)
   rw [HR.out, Dk.then_dies h1]
   clear h hok k1 k2 h1 ho
   go_enter Tryz.func184, Tryz.ntmps184
   go_wp2_with (go_at_call 169; (refine hst.mono ?_); rintro e w3 ⟨rfl, z⟩; replace z : Hid _ := hidS z)
   go_ret
   exact ⟨rfl, z.out⟩
  ·have hst := k2 h1 w (Turned.refl _ _)
   rw [HR.out, Dk.then_goes h1]
   obtain ⟨a, cap, hsv, -, -⟩ := h.seen.value
   have KC : Hid (∀ W, RkAt W rl r fv sv av pv { D with falls := D.falls - 1 } → Turned (fun b => rl b ≠ 0) w W → W.cell? ⟨r, 2, none⟩ = some sv ∧ Calls Tryz.prog 165 #[sv, .agg #[.string ⟨#[]⟩, .string ⟨#[]⟩, .int .i64 0]] W fun e w' => ∃ v, e = .returned v ∧ RkPost w rl r { { D with falls := D.falls - 1 } with safe := D.seen, pend := [] } ((w'.setCell ⟨r, 3, none⟩ v).setCell ⟨r, 4, none⟩ (.slice none 0 0)) ∧ w'.cell? ⟨r, 3, none⟩ = some av ∧ w'.cell? ⟨r, 4, none⟩ = some pv ∧ w'.frozen? ⟨r, 3, none⟩ = false ∧ w'.frozen? ⟨r, 4, none⟩ = false ∧ r < w'.heap.size ∧ ∃ a cap n, v = .slice a n cap) := hidS fun W hW ht => by
    refine ⟨cell_of hW.blk 2 _ rfl, (kchanged_any ⟨emp, emp, 0⟩ W hW.seen (show D.seen.length ≤ 100000 from kseen hok)).mono ?_⟩
    rintro e w' ⟨v, rfl, q1, q2⟩
    have hce : changed D.seen ⟨emp, emp, 0⟩ = D.seen := changed_none hok.seenOk.ne
    have q1' : Sl w' (fun b => W.heap.size ≤ b) 242 2 v (ncellsR D.seen) D.seen.length := by
     have := q1
     simp only [hce] at this
     exact this
    have hb := boxed hW.blk q2 id
    obtain ⟨a', cap', hv', -, -⟩ := q1'.value
    exact ⟨v, rfl, (hW.setSafe q2 q1').after ht, cell_of hb 3 _ rfl, cell_of hb 4 _ rfl, free_of hb 3, free_of hb 4, lt_of_block hb, a', cap', _, hv'⟩
   obtain ⟨ap, capp, hpv, -, -⟩ := h.pend.value
   obtain ⟨aa, capa, hav, -, -⟩ := h.safe.value
   rw [hsv, hpv, hav] at KC
   rw [hsv, hpv, hav] at hst
   clear h hok k1 k2 h1 ho hsv hpv hav
   go_enter Tryz.func184, Tryz.ntmps184
   go_wp2_with (first | (go_at_call 169; (refine hst.mono ?_); rintro e w3 ⟨rfl, z1, z2⟩; obtain ⟨y1, y2⟩ := KC.out _ z1 z2; clear z1 z2) | (go_at_call 165; (refine y2.mono ?_); rintro e w4 ⟨v, rfl, z, q1, q2, q3, q4, q5, a5, cap5, n5, rfl⟩; replace z : Hid _ := hidS z))
   go_ret
   exact ⟨rfl, z.out⟩
end Go.Proofs.YtofcogekgcgjhaaGreatDoor
namespace Go.Proofs.YtofcogekgcgjhaaGreatDoor
open Go.RowKit Go.Mine Go.Mine.Ac
set_option maxHeartbeats 8000000 in
theorem kcreate_any {w : World} {rl : Nat → Nat} {r : Nat} {fv sv av pv : Value} {D : Dk} (h : RkAt w rl r fv sv av pv D) (hok : D.Ok) (hp : D.pend.length ≤ 1000000000) (hfl : D.files.length ≤ 1000000000) (name : ByteArray) :
  Calls Tryz.prog 183 #[pt r, .string name] w fun e w' => e = .returned (.int .i64 ((D.create name).2 : Nat)) ∧ RkPost w rl r (D.create name).1 w' := by
 have c6 := cell_of h.blk 6 _ rfl
 have c2 := cell_of h.blk 2 _ rfl
 have hlt := lt_of_block h.blk
 have HP : Hid (∀ w', Turned (fun _ => False) w w' → RkPost w rl r D w') := hidS fun w' ht => (h.turned ht fun _ _ q => q).post (ht.mono fun _ _ q => q.elim)
 cases ho : D.off with
 | true =>
  have HR : Hid (D.create name = (D, 8)) := hidS (by simp [Dk.create, ho])
  rw [ho] at c6
  rw [HR.out]
  clear h hok ho
  go_enter Tryz.func183, Tryz.ntmps183
  go_wp2
  go_ret
  exact ⟨rfl, HP.out _ (Turned.refl _ _)⟩
 | false =>
  rw [ho] at c6
  have hgo : Calls Tryz.prog 264 #[.string name] w fun e w' => e = .returned (.bool (goodName name)) ∧ w = w' := kgood_any name w
  cases hg : goodName name with
  | false =>
   have HR : Hid (D.create name = (D, 1)) := hidS (by simp [Dk.create, ho, hg])
   rw [hg] at hgo
   rw [HR.out]
   clear h hok ho hg
   go_enter Tryz.func183, Tryz.ntmps183
   go_wp2_with (go_at_call 264; (with_reducible refine hgo.mono ?_); rintro e w3 ⟨rfl, rfl⟩)
   go_ret
   exact ⟨rfl, HP.out _ (Turned.refl _ _)⟩
  | true =>
   rw [hg] at hgo
   obtain ⟨asv, capsv, hsv, -, -⟩ := h.seen.value
   obtain ⟨af, capf, hfv, -, -⟩ := h.files.value
   subst hsv
   subst hfv
   obtain ⟨NS, hNS⟩ : ∃ NS, NS = D.seen.length := ⟨_, rfl⟩
   obtain ⟨n, hn⟩ : ∃ n, n = D.files.length := ⟨_, rfl⟩
   have hfd0 := kfind_any name w h.seen (kseen hok)
   have C2 : Hid (∀ W, Turned (fun _ => False) w W → W.cell? ⟨r, 2, none⟩ = some (.slice asv NS capsv)) := hidS fun W ht => by rw [hNS]; exact cell_at c2 ht id
   obtain ⟨k1, k2⟩ := kstep_two h hok
   rw [← hNS, ← hn] at k2
   rw [← hNS] at c2 hfd0
   have HA : Hid (∀ W, RkAt W rl r (.slice af n capf) (.slice asv NS capsv) av pv { D with falls := D.falls - 1 } → Sl (W.alloc (.cells #[.string ⟨#[]⟩, .int .i64 0] 244)) (fun b => rl b = 2) 244 2 (.slice af n capf) (fcellsR D.files) n ∧ Src Tryz.prog 2 196 (.slice (some ⟨W.heap.size, 0, none⟩) 1 1) 1 [.string ⟨#[]⟩, .int .i64 0] (W.alloc (.cells #[.string ⟨#[]⟩, .int .i64 0] 244)) ∧ W.cell? ⟨r, 1, none⟩ = some (.slice af n capf)) := hidS fun W hW => by
    refine ⟨?_, src_new 244 Tryz.underlying196 [.string ⟨#[]⟩, .int .i64 0] (by simp [Value.oneCell']) W, cell_of hW.blk 1 _ rfl⟩
    have := hW.files
    simp only [← hn] at this
    exact this.turned (Turned.alloc (fun _ => False) _ _) fun _ _ q => q
   have HB : Hid (∀ W w3 a3 cap3, RkAt W rl r (.slice af n capf) (.slice asv NS capsv) av pv { D with falls := D.falls - 1 } → Turned (fun b => rl b ≠ 0) w W → Turned (fun b => rl b = 2) (W.alloc (.cells #[.string ⟨#[]⟩, .int .i64 0] 244)) w3 →
     Sl w3 (More (fun b => rl b = 2) (W.alloc (.cells #[.string ⟨#[]⟩, .int .i64 0] 244))) 244 2 (.slice a3 (n + 1) cap3) (fcellsR D.files ++ [.string ⟨#[]⟩, .int .i64 0]) (n + 1) →
     w3.cell? ⟨r, 1, none⟩ = some (.slice af n capf) ∧ w3.frozen? ⟨r, 1, none⟩ = false ∧ r < w3.heap.size ∧
     Calls Tryz.prog 170 #[pt r, .agg #[.string ⟨#[]⟩, .string name, .int .i64 (n : Nat)]] (w3.setCell ⟨r, 1, none⟩ (.slice a3 (n + 1) cap3)) fun e w' => e = .returned (.tuple #[]) ∧ RkPost w rl r (Dk.change { { D with falls := D.falls - 1 } with files := D.files ++ [⟨emp, 0⟩] } ⟨emp, name, n⟩) w') := hidS fun W w3 a3 cap3 hW ht h3 hs => by
    have r1 := hW.r1
    have hb : w3.heap[r]? = _ := ((h3.block r (by have := lt_of_block hW.blk; simp; omega) (by rw [r1]; decide)).trans (alloc_old _ (lt_of_block hW.blk))).trans hW.blk
    refine ⟨cell_of hb 1 _ rfl, free_of hb 1, lt_of_block hb, ?_⟩
    obtain ⟨j1, j2⟩ := RkAt.addFile hW h3 (by simp only [← hn]; exact hs)
    refine (kchange_any j1 ⟨emp, name, n⟩ (show D.seen.length ≤ 100000 from kseen hok) hp).mono fun e w' ⟨a1, a2⟩ => ⟨a1, ?_⟩
    refine RkPost.from a2 (fun b hb => ?_) (ht.trans j2 fun _ _ q => q)
    exact (newR_or hb).elim .inl fun q => .inr (Nat.le_trans ht.size q)
   have HFL : Hid (n + 1 ≤ maxLen ∧ (n + 1) * 24 ≤ 140737488355328) := hidS ⟨by rw [hn]; simp only [maxLen]; omega, by rw [hn]; omega⟩
   have hw3 : wrap64 (n : Int) = (n : Int) := by rw [hn]; simp only [wrap64]; omega
   have hw1 : wrap64 (((n + 1 : Nat) : Int) - 1) = (n : Int) := by rw [hn]; simp only [wrap64]; omega
   have hw2 : wrap64 ((n : Int) + 1 - 1) = (n : Int) := by rw [hn]; simp only [wrap64]; omega
   have HCR : Hid (¬ (findN D.seen name = none ∧ 64 ≤ NS) → D.create name = D.then fun d => Dk.change { d with files := d.files ++ [⟨emp, 0⟩] } ⟨emp, name, d.files.length⟩) := hidS fun q => by
    unfold Dk.create
    rw [ho, if_neg (by decide), hg, if_neg (by decide), if_neg (by rw [← hNS]; exact q)]
   have HNN : Hid (n = D.files.length) := hn
   cases hfn : findN D.seen name with
   | none =>
    have hfd : Calls Tryz.prog 243 #[.slice asv NS capsv, .string name] w fun e w' => e = .returned (.int .i64 (-1)) ∧ Turned (fun _ => False) w w' := hfd0.mono fun e w' ⟨t, q⟩ => q.elim (fun q => ⟨q.2, t⟩) fun ⟨i, k, _, q, _⟩ => by rw [hfn] at q; cases q
    by_cases hfull : 64 ≤ NS
    ·have HR : Hid (D.create name = (D, 7)) := hidS (by
      unfold Dk.create
      rw [ho, if_neg (by decide), hg, if_neg (by decide), if_pos ⟨hfn, by omega⟩])
     have hd1 : decide ((64 : Int) ≤ (NS : Int)) = true := by simp; omega
     have hd2 : decide (64 ≤ NS) = true := by simp; omega
     rw [HR.out]
     clear h hok ho hg hp hfl hn hNS k1 k2 hfull hfn hfd0
     go_enter Tryz.func183, Tryz.ntmps183
     go_wp2_with (first | (go_at_call 264; (with_reducible refine hgo.mono ?_); rintro e w2 ⟨rfl, rfl⟩) | (go_at_call 243; (with_reducible refine hfd.mono ?_); rintro e w3 ⟨rfl, t⟩; have cc2 := C2.out _ t; replace t : Hid _ := hidS t))
     go_ret
     exact ⟨rfl, HP.out _ t.out⟩
    ·have hnf : ¬ (findN D.seen name = none ∧ 64 ≤ NS) := fun q => hfull q.2
     have hd1 : decide ((64 : Int) ≤ (NS : Int)) = false := by simp; omega
     have hd2 : decide (64 ≤ NS) = false := by simp; omega
     clear hfull hfn
     by_cases h1 : D.falls = 1
     ·have HST : Hid _ := hidS (k1 h1)
      rw [HCR.out hnf, Dk.then_dies h1]
      clear h hok ho hg hp hfl hn hNS k1 k2 h1 hfd0 hnf
      go_enter Tryz.func183, Tryz.ntmps183
      go_wp2_with (first | (go_at_call 264; (with_reducible refine hgo.mono ?_); rintro e w2 ⟨rfl, rfl⟩) | (go_at_call 243; (with_reducible refine hfd.mono ?_); rintro e w3 ⟨rfl, t⟩; have cc2 := C2.out _ t; have hst := HST.out _ t; clear t) | (go_at_call 169; (with_reducible refine hst.mono ?_); rintro e w4 ⟨rfl, z⟩; replace z : Hid _ := hidS z))
      go_ret
      exact ⟨rfl, z.out⟩
     ·have HST : Hid _ := hidS (k2 h1)
      rw [HCR.out hnf, Dk.then_goes h1]
      clear h hok ho hg hp hfl hn hNS k1 k2 h1 hfd0 hnf
      go_enter Tryz.func183, Tryz.ntmps183
      go_wp2_with (first
       | (go_at_call 264; (with_reducible refine hgo.mono ?_); rintro e w2 ⟨rfl, rfl⟩)
       | (go_at_call 243; (with_reducible refine hfd.mono ?_); rintro e w3 ⟨rfl, t⟩; have cc2 := C2.out _ t; have hst := HST.out _ t; clear t)
       | (go_at_call 169; (with_reducible refine hst.mono ?_); rintro e w4 ⟨rfl, z1, z2⟩; obtain ⟨y1, y2, y3⟩ := HA.out w4 z1; replace y1 : Hid _ := hidS y1; replace y2 : Hid _ := hidS y2; replace z1 : Hid _ := hidS z1; replace z2 : Hid _ := hidS z2)
       | (at_builtin; refine wpList_append rfl _ _ 196 196 rfl y1.out Tryz.underlying196 info244 rfl (by decide) rfl (.slice (some ⟨w4.heap.size, 0, none⟩) 1 1) rfl y2.out HFL.out.1 HFL.out.2 ?_; intro v5 w5 q1 q2; obtain ⟨a5, cap5, hv5, -, -⟩ := q1.value; subst hv5; obtain ⟨j1, j2, j3, j4⟩ := HB.out w4 w5 a5 cap5 z1.out z2.out q2 q1; clear q1 q2)
       | (go_at_call 170; (with_reducible refine j4.mono ?_); rintro e w6 ⟨rfl, z⟩; replace z : Hid _ := hidS z))
      go_ret
      exact ⟨rfl, by have := z.out; rw [HNN.out] at this; exact this⟩
   | some k =>
    have hfd : Calls Tryz.prog 243 #[.slice asv NS capsv, .string name] w fun e w' => (∃ i : Nat, e = .returned (.int .i64 (i : Nat))) ∧ Turned (fun _ => False) w w' := hfd0.mono fun e w' ⟨t, q⟩ => q.elim (fun q => by rw [hfn] at q; cases q.1) fun ⟨i, k', _, _, q2⟩ => ⟨⟨i, q2⟩, t⟩
    have hnf : ¬ (findN D.seen name = none ∧ 64 ≤ NS) := fun q => by rw [hfn] at q; cases q.1
    clear hfn
    by_cases h1 : D.falls = 1
    ·have HST : Hid _ := hidS (k1 h1)
     rw [HCR.out hnf, Dk.then_dies h1]
     clear h hok ho hg hp hfl hn hNS k1 k2 h1 hfd0 hnf
     go_enter Tryz.func183, Tryz.ntmps183
     go_wp2_with (first | (go_at_call 264; (with_reducible refine hgo.mono ?_); rintro e w2 ⟨rfl, rfl⟩) | (go_at_call 243; (with_reducible refine hfd.mono ?_); rintro e w3 ⟨⟨fi, rfl⟩, t⟩; have cc2 := C2.out _ t; have hfi0 : decide ((fi : Int) < 0) = false := (by simp); have hst := HST.out _ t; clear t) | (go_at_call 169; (with_reducible refine hst.mono ?_); rintro e w4 ⟨rfl, z⟩; replace z : Hid _ := hidS z))
     go_ret
     exact ⟨rfl, z.out⟩
    ·have HST : Hid _ := hidS (k2 h1)
     rw [HCR.out hnf, Dk.then_goes h1]
     clear h hok ho hg hp hfl hn hNS k1 k2 h1 hfd0 hnf
     go_enter Tryz.func183, Tryz.ntmps183
     go_wp2_with (first
      | (go_at_call 264; (with_reducible refine hgo.mono ?_); rintro e w2 ⟨rfl, rfl⟩)
      | (go_at_call 243; (with_reducible refine hfd.mono ?_); rintro e w3 ⟨⟨fi, rfl⟩, t⟩; have cc2 := C2.out _ t; have hfi0 : decide ((fi : Int) < 0) = false := (by simp); have hst := HST.out _ t; clear t)
      | (go_at_call 169; (with_reducible refine hst.mono ?_); rintro e w4 ⟨rfl, z1, z2⟩; obtain ⟨y1, y2, y3⟩ := HA.out w4 z1; replace y1 : Hid _ := hidS y1; replace y2 : Hid _ := hidS y2; replace z1 : Hid _ := hidS z1; replace z2 : Hid _ := hidS z2)
      | (at_builtin; refine wpList_append rfl _ _ 196 196 rfl y1.out Tryz.underlying196 info244 rfl (by decide) rfl (.slice (some ⟨w4.heap.size, 0, none⟩) 1 1) rfl y2.out HFL.out.1 HFL.out.2 ?_; intro v5 w5 q1 q2; obtain ⟨a5, cap5, hv5, -, -⟩ := q1.value; subst hv5; obtain ⟨j1, j2, j3, j4⟩ := HB.out w4 w5 a5 cap5 z1.out z2.out q2 q1; clear q1 q2)
      | (go_at_call 170; (with_reducible refine j4.mono ?_); rintro e w6 ⟨rfl, z⟩; replace z : Hid _ := hidS z))
     go_ret
     exact ⟨rfl, by have := z.out; rw [HNN.out] at this; exact this⟩
end Go.Proofs.YtofcogekgcgjhaaGreatDoor
