/- Packed. -/
import Derived.Test.YtofcogekgcgjhaaGreatDoorZzbb
import Derived.Test.YtofcogekgcgjhaaGreatDoorZzaz
set_option linter.unusedVariables false
set_option linter.unusedSimpArgs false
set_option maxRecDepth 100000
namespace Go.Proofs.YtofcogekgcgjhaaGreatDoor
open Go.RowKit Go.Mine Go.Mine.Ac
/-! ### The disk, its blocks in a set -/
def FsTo (w : World) (S : Nat → Prop) (d : Nat) (D' : Dk) (w' : World) : Prop :=
 ∃ S', FsIs w' S' d D' ∧ (∀ b, S' b → S b ∨ w.heap.size ≤ b) ∧ (∀ b, S' b → b < w'.heap.size) ∧ Turned S w w'
theorem FsTo.of {w w' : World} {rl : Nat → Nat} {S : Nat → Prop} {d : Nat} {D' : Dk} (h : FsPost w rl d D' w') (hS : ∀ b, rl b ≠ 0 → S b) : FsTo w S d D' w' := by
 obtain ⟨rl', ms', mf', pv', F', h1, h2, h3⟩ := h
 exact ⟨fun b => rl' b ≠ 0, ⟨rl', ms', mf', pv', F', h1, fun b hb => hb⟩, fun b hb => (h2 b hb).imp (hS b) id, h1.bnd, h3.mono fun b _ hb => hS b hb⟩
theorem FsTo.next {w w1 w2 : World} {S S1 : Nat → Prop} {d : Nat} {D2 : Dk} (h : FsTo w1 S1 d D2 w2) (h1 : ∀ b, S1 b → S b ∨ w.heap.size ≤ b) (t : Turned S w w1) : FsTo w S d D2 w2 := by
 obtain ⟨S2, a, b, c, e⟩ := h
 exact ⟨S2, a, fun x hx => (b x hx).elim (h1 x) fun q => .inr (Nat.le_trans t.size q), c, t.comp e fun i hi q => q.elim id fun q => (h1 i q).elim id fun z => by omega⟩
theorem FsTo.after {w w1 w2 : World} {S : Nat → Prop} {d : Nat} {D2 : Dk} (h : FsTo w1 S d D2 w2) (t : Turned S w w1) : FsTo w S d D2 w2 := h.next (fun b hb => .inl hb) t
theorem FsTo.stay {w : World} {S : Nat → Prop} {d : Nat} {D : Dk} (h : FsIs w S d D) (hb : ∀ b, S b → b < w.heap.size) : FsTo w S d D w := ⟨S, h, fun b q => .inl q, hb, Turned.refl _ _⟩
theorem fsAppend {w : World} {S : Nat → Prop} {d : Nat} {D : Dk} (h : FsIs w S d D) (hok : D.Ok) (name text : ByteArray) (htx : text.size ≤ 1099511627776) :
  Calls Tryz.prog 34 #[pt d, .string name, .string text] w fun e w' => e = .returned (.int .i64 ((D.append name text).2 : Nat)) ∧ FsTo w S d (D.append name text).1 w' := by
 obtain ⟨rl, ms, mf, pv, F, h1, h2⟩ := h
 exact (fappend_any h1 hok name text htx).mono fun e w' ⟨a, b⟩ => ⟨a, FsTo.of b h2⟩
theorem fsSync {w : World} {S : Nat → Prop} {d : Nat} {D : Dk} (h : FsIs w S d D) (hok : D.Ok) (name : ByteArray) :
  Calls Tryz.prog 155 #[pt d, .string name] w fun e w' => e = .returned (.int .i64 ((D.sync name).2 : Nat)) ∧ FsTo w S d (D.sync name).1 w' := by
 obtain ⟨rl, ms, mf, pv, F, h1, h2⟩ := h
 exact (fsync_any h1 hok name).mono fun e w' ⟨a, b⟩ => ⟨a, FsTo.of b h2⟩
theorem fsSyncNames {w : World} {S : Nat → Prop} {d : Nat} {D : Dk} (h : FsIs w S d D) (hok : D.Ok) :
  Calls Tryz.prog 74 #[pt d] w fun e w' => e = .returned (.int .i64 (D.syncNames.2 : Nat)) ∧ FsTo w S d D.syncNames.1 w' := by
 obtain ⟨rl, ms, mf, pv, F, h1, h2⟩ := h
 exact (fsyncNames_any h1 hok).mono fun e w' ⟨a, b⟩ => ⟨a, FsTo.of b h2⟩
/-! ### A store with another cell -/
theorem TreesAt.keep {w w' : World} {T : Nat → Prop} {rl : Nat → Nat} {tv : Value} {l : List (List Ent)} (h : TreesAt w rl tv l) (ht : Turned T w w') (hT : ∀ b, rl b = 2 ∨ rl b = 4 → ¬ T b) : TreesAt w' rl tv l := by
 obtain ⟨tvs, h1, h2⟩ := h
 refine ⟨tvs, h1.turned ht fun b hb => hT b (.inl hb), fun i t hi => ?_⟩
 obtain ⟨a, cap, h3, h4⟩ := h2 i t hi
 exact ⟨a, cap, h3, h4.turned ht fun b hb => hT b (.inr hb)⟩
theorem CommitsAt.keep {w w' : World} {T : Nat → Prop} {rl : Nat → Nat} {tv : Value} {l : List Cm} (h : CommitsAt w rl tv l) (ht : Turned T w w') (hT : ∀ b, rl b = 3 ∨ rl b = 4 → ¬ T b) : CommitsAt w' rl tv l := by
 obtain ⟨tvs, h1, h2⟩ := h
 refine ⟨tvs, h1.turned ht fun b hb => hT b (.inl hb), fun i t hi => ?_⟩
 obtain ⟨a, cap, h3, h4, h5⟩ := h2 i t hi
 exact ⟨a, cap, h3, h4, h5.turned ht fun b hb => hT b (.inr hb)⟩
theorem StAt.setDead {T : TypeId} {w : World} {rs : Nat → Nat} {p : Nat} {dv tv cv : Value} {s : St} (h : StAt T w rs p dv tv cv s) (B : Bool) : StAt T (w.setCell ⟨p, 3, none⟩ (.bool B)) rs p dv tv cv { s with dead := B } := by
 have t : Turned (· = p) w (w.setCell ⟨p, 3, none⟩ (.bool B)) := Turned.setCell (S := (· = p)) (p := ⟨p, 3, none⟩) rfl _
 have r1 := h.r1
 refine ⟨h.r1, ?_, h.trees.keep t fun b hb q => ?_, h.commits.keep t fun b hb q => ?_, fun b hb => by rw [setCell_size]; exact h.bnd b hb⟩
 ·have := Go.Mine.heap_setCell_same h.blk (o := 3) (.bool B)
  simpa [Blk] using this
 ·rw [q, r1] at hb; omega
 ·rw [q, r1] at hb; omega
/-! ### What write does, in plain -/
theorem writeS_dies {D D1 : Dk} {s : St} {kind k : Nat} {body : ByteArray} (h : D.append logB (toldF ⟨kind, body⟩) = (D1, k)) (hk : k ≠ 0) : writeS D s kind body = (D1, { s with dead := decide (k = 8) }, k) := by
 unfold writeS
 rw [h]
 cases k with
 | zero => exact absurd rfl hk
 | succ k => rfl
theorem writeS_goes {D D1 D2 : Dk} {s : St} {kind k : Nat} {body : ByteArray} (h : D.append logB (toldF ⟨kind, body⟩) = (D1, 0)) (h2 : D1.sync logB = (D2, k)) : writeS D s kind body = (D2, { s with dead := decide (k = 8) }, k) := by
 unfold writeS
 rw [h]
 show (match D1.sync logB with | (d2, e) => (d2, ({ s with dead := decide (e = 8) } : St), e)) = _
 rw [h2]
/-! ### write's closures -/
theorem w153_any {w : World} {b0 b1 p d : Nat} {text : ByteArray} {k : Nat} {Q : World → Prop} (x0 : w.cell? ⟨b0, 0, none⟩ = some (pt p)) (x1 : w.cell? ⟨b1, 0, none⟩ = some (.string text)) (hp : w.cell? ⟨p, 0, none⟩ = some (pt d))
  (hc : ∀ W, Turned (fun _ => False) w W → Calls Tryz.prog 34 #[pt d, .string ⟨#[108, 111, 103]⟩, .string text] W fun e w' => e = .returned (.int .i64 (k : Nat)) ∧ Q w') :
  Calls Tryz.prog 153 #[pt b0, pt b1] w fun e w' => e = .returned (.int .i64 (k : Nat)) ∧ Q w' := by
 have l0 := lt_of_cell x0
 have l1 := lt_of_cell x1
 have lp := lt_of_cell hp
 go_enter Tryz.func153, Tryz.ntmps153
 have HC : Hid _ := hidS hc
 clear hc
 go_wp2
 go_region_with (go_at_call 34; (with_reducible refine (HC.out _ (Turned.drew _ _)).mono ?_); rintro e w' ⟨rfl, q⟩; replace q : Hid _ := hidS q)
 all_goals go_wp2
 all_goals go_ret
 all_goals exact ⟨rfl, q.out⟩
theorem w154_any {w : World} {b0 p d : Nat} {k : Nat} {Q : World → Prop} (x0 : w.cell? ⟨b0, 0, none⟩ = some (pt p)) (hp : w.cell? ⟨p, 0, none⟩ = some (pt d))
  (hc : Calls Tryz.prog 155 #[pt d, .string ⟨#[108, 111, 103]⟩] w fun e w' => e = .returned (.int .i64 (k : Nat)) ∧ Q w') :
  Calls Tryz.prog 154 #[pt b0] w fun e w' => e = .returned (.int .i64 (k : Nat)) ∧ Q w' := by
 have l0 := lt_of_cell x0
 have lp := lt_of_cell hp
 go_enter Tryz.func154, Tryz.ntmps154
 go_wp2_with (go_at_call 155; (with_reducible refine hc.mono ?_); rintro e w' ⟨rfl, q⟩; replace q : Hid _ := hidS q)
 go_ret
 exact ⟨rfl, q.out⟩
theorem wfirst_any {w W : World} {SD : Nat → Prop} {d p : Nat} {D : Dk} {rs : Nat → Nat} {tv cv : Value} {s : St} (hD : FsIs w SD d D) (hok : D.Ok) (h : StAt 140 w rs p (pt d) tv cv s) (hdis : ∀ b, SD b → rs b = 0) (hbd : ∀ b, SD b → b < w.heap.size)
  (T0 : Turned (fun _ => False) w W) {b0 b1 g : Nat} (l0 : w.heap.size ≤ b0) (lg : w.heap.size ≤ g) {kind : Nat} {body : ByteArray} (hsz : (toldF ⟨kind, body⟩).size ≤ 1099511627776)
  (x0 : W.heap[b0]? = some (.cells #[pt p] 34)) (x1 : W.heap[b1]? = some (.cells #[.string (toldF ⟨kind, body⟩)] 9))
  (hg : W.heap[g]? = some (.cells #[.func (.func 153) #[] #[pt b0, pt b1], .func (.func 154) #[] #[pt b0]] 137)) :
  Calls Tryz.prog 72 #[.slice (some ⟨g, 0, none⟩) 2 2] W fun e w' => e = .returned (.int .i64 ((writeS D s kind body).2.2 : Nat)) ∧ FsTo W SD d (writeS D s kind body).1 w' := by
 have hDW : FsIs W SD d D := hD.turned T0 fun _ _ q => q
 have hStW : StAt 140 W rs p (pt d) tv cv s := h.turned T0 fun _ _ q => q
 have cp : W.cell? ⟨p, 0, none⟩ = some (pt d) := cell_of hStW.blk 0 _ rfl
 have y0 : W.cell? ⟨b0, 0, none⟩ = some (pt p) := cell_of x0 0 _ rfl
 have y1 : W.cell? ⟨b1, 0, none⟩ = some (.string (toldF ⟨kind, body⟩)) := cell_of x1 0 _ rfl
 have hA := fun W2 (q : Turned (fun _ => False) W W2) => (fsAppend (hDW.turned q fun _ _ z => z) hok logB (toldF ⟨kind, body⟩) hsz).mono fun e w' (z : _ ∧ _) => (⟨z.1, z.2.after (q.mono fun _ _ y => y.elim)⟩ : _ ∧ FsTo W SD d (D.append logB (toldF ⟨kind, body⟩)).1 w')
 have hoA := hok.appendOk logB (toldF ⟨kind, body⟩)
 have TS : Turned SD w W := T0.mono fun _ _ q => q.elim
 obtain ⟨D1, k1, hap⟩ : ∃ D1 k1, D.append logB (toldF ⟨kind, body⟩) = (D1, k1) := ⟨_, _, rfl⟩
 rw [hap] at hA hoA
 dsimp only at hA hoA
 by_cases hk : k1 = 0
 ·subst hk
  obtain ⟨D2, k2, hsy⟩ : ∃ D2 k2, D1.sync logB = (D2, k2) := ⟨_, _, rfl⟩
  rw [writeS_goes hap hsy]
  refine first153_goes hg (T := SD) (Q1 := fun w1 => FsTo W SD d D1 w1) (fun q => by have := hbd _ q; omega) ((w153_any y0 y1 cp hA).mono fun e w' ⟨a, b⟩ => ⟨a, b, ?_⟩) fun w1 q1 t1 => ?_
  ·obtain ⟨_, _, _, _, t⟩ := b
   exact t
  ·obtain ⟨S1, g1, g2, g3, g4⟩ := q1
   have hs := fsSync g1 hoA logB
   rw [hsy] at hs
   refine (w154_any (cell_of (boxed x0 t1 fun q => by have := hbd _ q; omega) 0 _ rfl) (cell_of (boxed hStW.blk t1 fun q => by have := hdis _ q; have := h.r1; omega) 0 _ rfl) hs).mono fun e w' ⟨a, b⟩ => ⟨a, ?_⟩
   exact b.next g2 t1
 ·rw [writeS_dies hap hk]
  exact (first153_dies hg hk (w153_any y0 y1 cp hA)).mono fun e w' ⟨a, b⟩ => ⟨a, b⟩
def WrTo (w : World) (SD : Nat → Prop) (d p : Nat) (rs : Nat → Nat) (tv cv : Value) (D' : Dk) (s' : St) (w' : World) : Prop :=
 ∃ SD', FsIs w' SD' d D' ∧ (∀ b, SD' b → SD b ∨ w.heap.size ≤ b) ∧ (∀ b, SD' b → b < w'.heap.size) ∧ StAt 140 w' rs p (pt d) tv cv s' ∧ Turned (fun b => SD b ∨ b = p) w w'
theorem FsTo.dead {w w1 : World} {SD : Nat → Prop} {d p : Nat} {D D' : Dk} {rs : Nat → Nat} {tv cv : Value} {s : St} (h : StAt 140 w rs p (pt d) tv cv s) (hdis : ∀ b, SD b → rs b = 0) (q : FsTo w SD d D' w1) (B : Bool) :
  WrTo w SD d p rs tv cv D' { s with dead := B } (w1.setCell ⟨p, 3, none⟩ (.bool B)) := by
 obtain ⟨S1, g1, g2, g3, g4⟩ := q
 have t : Turned (· = p) w1 (w1.setCell ⟨p, 3, none⟩ (.bool B)) := Turned.setCell (S := (· = p)) (p := ⟨p, 3, none⟩) rfl _
 have r1 := h.r1
 have hp := h.bnd p (by omega)
 have hst : StAt 140 w1 rs p (pt d) tv cv s := h.turned g4 fun b hb z => hb (hdis b z)
 refine ⟨S1, g1.turned t fun b hb z => ?_, g2, fun b hb => by rw [setCell_size]; exact g3 b hb, hst.setDead B, g4.comp t fun i hi z => z.elim .inl .inr⟩
 rcases g2 b hb with z2 | z2
 ·have := hdis _ z2; rw [z, r1] at this; omega
 ·omega
set_option maxHeartbeats 1000000 in
theorem swrite_any {w : World} {SD : Nat → Prop} {d p : Nat} {D : Dk} {rs : Nat → Nat} {tv cv : Value} {s : St} (hD : FsIs w SD d D) (hok : D.Ok) (h : StAt 140 w rs p (pt d) tv cv s) (hdis : ∀ b, SD b → rs b = 0) (hbd : ∀ b, SD b → b < w.heap.size)
  (kind : Nat) (body : ByteArray) (h1 : 1 ≤ kind) (h2 : kind ≤ 255) (h3 : body.size ≤ 1048576) (hsz : (toldF ⟨kind, body⟩).size ≤ 1099511627776) :
  Calls Tryz.prog 68 #[pt p, .int .i64 (kind : Nat), .string body] w fun e w' => e = .returned (.int .i64 ((writeS D s kind body).2.2 : Nat)) ∧ WrTo w SD d p rs tv cv (writeS D s kind body).1 (writeS D s kind body).2.1 w' := by
 have hE := fun W => fencode_any ⟨kind, body⟩ W h1 h2 h3
 unfold FePost at hE
 have HF : Hid (∀ (W : World), Turned (fun _ => False) w W → ∀ b0 b1 g, w.heap.size ≤ b0 → w.heap.size ≤ g → W.heap[b0]? = some (.cells #[pt p] 34) → W.heap[b1]? = some (.cells #[.string (toldF ⟨kind, body⟩)] 9) → W.heap[g]? = some (.cells #[.func (.func 153) #[] #[pt b0, pt b1], .func (.func 154) #[] #[pt b0]] 137) →
   Calls Tryz.prog 72 #[.slice (some ⟨g, 0, none⟩) 2 2] W fun e w' => e = .returned (.int .i64 ((writeS D s kind body).2.2 : Nat)) ∧ FsTo W SD d (writeS D s kind body).1 w') := fun W T0 b0 b1 g l0 lg x0 x1 hg => wfirst_any hD hok h hdis hbd T0 l0 lg hsz x0 x1 hg
 have hst : (writeS D s kind body).2.1 = { s with dead := decide ((writeS D s kind body).2.2 = 8) } := by
  unfold writeS
  generalize D.append logB (toldF ⟨kind, body⟩) = r
  obtain ⟨D1, k⟩ := r
  cases k with
  | zero => rfl
  | succ k => rfl
 rw [hst]
 generalize (writeS D s kind body).2.2 = K at *
 generalize (writeS D s kind body).1 = D' at *
 have HT : Hid (∀ w1, FsTo w SD d D' w1 → WrTo w SD d p rs tv cv D' { s with dead := decide (K = 8) } (w1.setCell ⟨p, 3, none⟩ (.bool (decide (K = 8))))) := fun w1 q => q.dead (D := D) h hdis _
 have HB : Hid (∀ b, SD b → b < w.heap.size) := hbd
 have HP : Hid (∀ w1, FsTo w SD d D' w1 → w1.frozen? ⟨p, 3, none⟩ = false ∧ p < w1.heap.size ∧ ∃ u, w1.cell? ⟨p, 3, none⟩ = some u) := fun w1 q => by
  obtain ⟨S1, g1, g2, g3, g4⟩ := q
  have := (h.turned g4 fun b hb z => hb (hdis b z)).blk
  exact ⟨free_of this 3, lt_of_block this, _, cell_of this 3 _ rfl⟩
 have hk8 : ((K : Int) == 8) = decide (K = 8) := by
  by_cases q : K = 8
  ·subst q; rfl
  ·rw [decide_eq_false q]; simp; omega
 generalize decide (K = 8) = B at *
 have hlp := lt_of_block h.blk
 generalize toldF ⟨kind, body⟩ = text at *
 have HF2 : Hid (∀ w1, Turned (fun _ => False) (w.alloc (.cells #[pt p] 34)) w1 → Calls Tryz.prog 72 #[.slice (some ⟨w1.heap.size + 1, 0, none⟩) 2 2] ((w1.alloc (.cells #[.string text] 9)).alloc (.cells #[.func (.func 153) #[] #[pt w.heap.size, pt w1.heap.size], .func (.func 154) #[] #[pt w.heap.size]] 137)) fun e w' => e = .returned (.int .i64 (K : Nat)) ∧ FsTo w SD d D' w' ∧ w'.cell? ⟨w.heap.size, 0, none⟩ = some (pt p) ∧ w.heap.size < w'.heap.size) := fun w1 t1 => by
  obtain ⟨t0, x0⟩ := one_box (w := w) (.cells #[pt p] 34)
  obtain ⟨t2, x1, x2⟩ := two_boxes (w := w1) (.cells #[.string text] 9) (.cells #[.func (.func 153) #[] #[pt w.heap.size, pt w1.heap.size], .func (.func 154) #[] #[pt w.heap.size]] 137)
  have t3 := t0.trans t1 fun _ _ q => q
  have hs := t3.size
  have xb := boxed x0 (t1.trans t2 fun _ _ q => q) id
  refine (HF.out _ (t3.trans t2 fun _ _ q => q) _ _ _ (Nat.le_refl _) (by omega) xb x1 x2).mono fun e w' ⟨a, b⟩ => ⟨a, b.after ((t3.trans t2 fun _ _ q => q).mono fun _ _ q => q.elim), ?_⟩
  obtain ⟨_, _, _, _, t⟩ := b
  have xc := boxed xb t fun q => by have := HB.out _ q; omega
  exact ⟨cell_of xc 0 _ rfl, lt_of_block xc⟩
 clear hD hok h hdis hbd h1 h2 h3 hsz hst HF
 go_enter Tryz.func68, Tryz.ntmps68
 go_wp2_with (first
  | (go_at_call 152; (with_reducible refine (hE _).mono ?_); rintro e w1 ⟨rfl, t1⟩; have hf := HF2.out w1 t1; replace t1 : Hid _ := hidS t1)
  | (go_at_call 72; (with_reducible refine hf.mono ?_); rintro e w2 ⟨rfl, q, d1, d2⟩; obtain ⟨c1, c2, u, c3⟩ := HP.out w2 q; replace q : Hid _ := hidS q; clear hf))
 all_goals go_ret
 all_goals exact ⟨rfl, HT.out _ q.out⟩
set_option maxHeartbeats 4000000 in
theorem bmake_any (s : Stg) (l : List ByteArray) (w : World) {S : Nat → Prop} {a : Option Addr} {cap : Nat} (hsd : s.seed < 4294967296) (h : Sl w S 9 1 (.slice a l.length cap) (l.map Value.string) l.length) (hl : l.length ≤ 1000000) (hs : ∀ x ∈ l, x.size ≤ 1000000000) :
    Calls Tryz.prog 232 #[stgv s, .slice a l.length cap] w (MkPost w s l) := by
  obtain ⟨Z, hZ⟩ : ∃ Z, Z = MkPost w s l := ⟨_, rfl⟩
  have HZ : Hid (Z = MkPost w s l) := hZ
  rw [← hZ]
  obtain ⟨V, hV⟩ : ∃ V, V = (w.alloc (.cells #[.int .i64 s.h, .int .i64 s.p, .int .i64 s.m, .int .u32 (s.seed : Nat)] 24)).alloc (.cells #[.int .i64 0, .string ⟨#[]⟩] 46) := ⟨_, rfl⟩
  have HVV : Hid (V = (w.alloc (.cells #[.int .i64 s.h, .int .i64 s.p, .int .i64 s.m, .int .u32 (s.seed : Nat)] 24)).alloc (.cells #[.int .i64 0, .string ⟨#[]⟩] 46)) := hV
  obtain ⟨tV, xS, xF⟩ := two_boxes (w := w) (.cells #[.int .i64 s.h, .int .i64 s.p, .int .i64 s.m, .int .u32 (s.seed : Nat)] 24) (.cells #[.int .i64 0, .string ⟨#[]⟩] 46)
  rw [← hV] at tV xS xF
  have TV : Hid (Turned (fun _ => False) w V) := tV
  have HBX : Hid (∀ (W : World) (T : Nat → Prop), Turned T V W → ¬ T w.heap.size → W.cell? ⟨w.heap.size, 0, none⟩ = some (.int .i64 s.h) ∧ W.cell? ⟨w.heap.size, 1, none⟩ = some (.int .i64 s.p) ∧ W.cell? ⟨w.heap.size, 2, none⟩ = some (.int .i64 s.m) ∧ W.cell? ⟨w.heap.size, 3, none⟩ = some (.int .u32 (s.seed : Nat)) ∧ w.heap.size < W.heap.size) := fun W T q z => by
    have ha := boxed xS q z
    exact ⟨cell_of ha 0 _ rfl, cell_of ha 1 _ rfl, cell_of ha 2 _ rfl, cell_of ha 3 _ rfl, lt_of_block ha⟩
  have HFX : Hid (∀ (W : World) (T : Nat → Prop), Turned T V W → ¬ T (w.heap.size + 1) → W.heap[w.heap.size + 1]? = some (.cells #[.int .i64 0, .string ⟨#[]⟩] 46)) := fun W T q z => boxed xF q z
  obtain ⟨v0, v1, v2, v3, v4⟩ := HBX.out V (fun _ => False) (Turned.refl _ _) id
  have HCK : Hid (Calls Tryz.prog 131 #[.agg #[.int .i64 s.h, .int .i64 s.p, .int .i64 s.m, .int .u32 (s.seed : Nat)]] V fun e w' => e = .returned (.int .i64 (if goodStg s then 0 else 1)) ∧ Turned (fun _ => False) V w') := bcheck_any s V
  have hmm := @run_makeMap Tryz.prog
  have HH : Hid _ := hidS h
  have HL0 : Hid (l.length ≤ 1000000 ∧ (∀ x ∈ l, x.size ≤ 1000000000) ∧ s.seed < 4294967296) := ⟨hl, hs, hsd⟩
  by_cases hg : goodStg s
  · rw [if_pos hg] at HCK
    have HG : Hid (goodStg s) := hg
    obtain ⟨L, hL⟩ : ∃ L, L = l.length := ⟨_, rfl⟩
    have HL : Hid (L = l.length ∧ L ≤ 1000000) := ⟨hL, by omega⟩
    rw [← hL]
    clear hZ hV tV xS xF hg h hl hs hsd hL
    go_enter Tryz.func232, Tryz.ntmps232
    go_wp2_with fail
    rw [← HVV.out]
    go_wp2_with (go_at_call 131; (with_reducible refine HCK.out.mono ?_); rintro e w1 ⟨rfl, q⟩; replace q : Hid _ := hidS q)
    obtain ⟨X, hX⟩ : ∃ X, X = w1.alloc (.map #[] 0) := ⟨_, rfl⟩
    obtain ⟨mb, hmb⟩ : ∃ mb, mb = w1.heap.size := ⟨_, rfl⟩
    have hM0 : MapIs KStr X mb (setM []) 0 := by rw [hX, hmb]; exact (MapIs.made KStr w1).congr rfl fun k => by cases k <;> simp [setM]
    have hB0 : Births X mb := by rw [hX, hmb]; exact Births.made w1
    have hTX : Turned (fun _ => False) V X := by rw [hX]; exact q.out.new _
    have hmw : w.heap.size + 1 < mb := by have := lt_of_block (HFX.out w1 _ q.out id); omega
    have hmX : mb < X.heap.size := hM0.lt
    rw [← hmb, ← hX]
    have TX : Hid (Turned (fun _ => False) V X ∧ w.heap.size + 1 < mb ∧ V.heap.size ≤ mb) := ⟨hTX, hmw, by rw [hmb]; exact q.out.size⟩
    have B0 : Hid (M1Rel X mb l L (.int .i64 0) X) := ⟨0, by have := HL.out; omega, rfl, by simpa [once] using hM0, hB0, Turned.refl _ _⟩
    have HWT : Hid (∀ wr, Turned (· = mb) X wr → Turned (fun _ => False) w wr) := fun wr t => (TV.out.trans hTX fun _ _ z => z).comp t fun i hi z => z.elim id fun z => by omega
    clear q hX hmb hM0 hB0 hTX hmw v0 v1 v2 v3 v4 hmm HCK
    go_loopg [23] L (fun g iv wr => M1Rel X mb l g iv wr)
    case atStart => exact B0.out
    case round =>
      clear B0
      obtain ⟨j, hjg, rfl, hmap, hbr, ht⟩ := hrel
      have G : Hid (j + gk = l.length) := hjg
      have HT : Hid (Turned (· = mb) X wr) := ht
      have HM : Hid (MapIs KStr wr mb (setM (l.take j)) (once (l.take j)).length) := hmap
      have HBR : Hid (Births wr mb) := hbr
      clear hjg ht hmap hbr
      by_cases hlt : j < L
      · obtain ⟨p, hp⟩ : ∃ p, l[j]? = some p := ⟨_, List.getElem?_eq_getElem (by rw [← HL.out.1]; exact hlt)⟩
        have HP : Hid (l[j]? = some p) := hp
        obtain ⟨g, off, cap', hva, -, -, -, hcell, -, hgl⟩ := HH.out.opens (by rw [← HL.out.1]; omega)
        simp only [Value.slice.injEq] at hva
        obtain ⟨rfl, -, -⟩ := hva
        have c0 : wr.cell? ⟨g, off + j, none⟩ = some (.string p) := cell_at (by rw [hcell j (by rw [← HL.out.1]; omega), List.getElem?_map, hp]; rfl) (HWT.out wr HT.out) id
        have hgr : g < wr.heap.size := Nat.lt_of_lt_of_le hgl (HWT.out wr HT.out).size
        clear hp hcell hgl
        go_wp2_with (at_mapUpdate; go_must (refine wpList_updateB rfl _ _ _ 349 rfl 9 276 keyStr Tryz.underlying349 HM.out HBR.out rfl (.string p) (.agg #[]) rfl rfl (kstr _) ?_); intro w3 hm3 hb3 ht3 hz3; have M3 : Hid _ := hidS (And.intro hm3 (And.intro hb3 ht3)); clear hm3 hb3 ht3 hz3)
        go_roundg (gk - 1)
        case measure => have := G.out; have := HL.out; omega
        case rel =>
          have e1 : l.take (j + 1) = l.take j ++ [p] := by rw [List.take_add_one, HP.out]; rfl
          refine ⟨j + 1, by have := G.out; have := HL.out; omega, by have := HL.out; simp [wrap64]; omega, ?_, M3.out.2.1, HT.out.trans M3.out.2.2 fun _ _ z => z⟩
          rw [e1, once_snoc_len]
          have := M3.out.1
          rw [setM_some] at this
          by_cases hq : p ∈ l.take j
          · rw [if_pos (by simpa using hq)] at this
            rw [if_pos hq]
            exact this.congr rfl fun k => setM_snoc _ _ _
          · rw [if_neg (by simpa using hq)] at this
            rw [if_neg hq]
            exact this.congr rfl fun k => setM_snoc _ _ _
      · have hj : j = L := by have := G.out; have := HL.out.1; omega
        have HE : Hid (l.take j = l) := List.take_of_length_le (by have := HL.out.1; omega)
        rw [HE.out] at HM
        clear hlt
        subst hj
        obtain ⟨n, hn⟩ : ∃ n, n = (once l).length := ⟨_, rfl⟩
        rw [← hn] at HM
        have HN : Hid (n = (once l).length) := hn
        clear hn
        obtain ⟨v0, v1, v2, v3, v4⟩ := HBX.out wr (· = mb) ((TX.out.1.mono fun _ _ z => z.elim).trans HT.out fun _ _ z => z) (by have := TX.out.2.1; omega)
        have k0 := HFX.out wr (· = mb) ((TX.out.1.mono fun _ _ z => z.elim).trans HT.out fun _ _ z => z) (by have := TX.out.2.1; omega)
        have f0 := free_of k0 0
        have f1 := free_of k0 1
        have c0 := cell_of k0 0 _ rfl
        have c1 := cell_of k0 1 _ rfl
        have kl := lt_of_block k0
        clear k0
        have HWM : Hid (s.m.toNat = s.m) := hidS (by have := HG.out; unfold goodStg at this; omega)
        have hlen := HM.out.len Tryz.underlying349 3
        by_cases hm : s.m < (n : Int)
        · have d1 : decide (s.m < (n : Int)) = true := by simp [hm]
          have HE2 : Hid (mkV s l = .tuple #[fltv ⟨2, ⟨#[]⟩⟩, .int .i64 0]) := hidS (by
            unfold mkV
            rw [if_pos HG.out, makeF_large (by have := HN.out; have := HWM.out; omega)])
          clear hm
          go_wp2
          refine bodyPost_ret (v := .tuple #[fltv ⟨2, ⟨#[]⟩⟩, .int .i64 0]) (by simp [results, Tryz.results232, go_sem, c0, c1, kl, f0, f1]) rfl ?_
          rw [HZ.out]
          exact ⟨by rw [HE2.out], ((HWT.out wr HT.out).fresh (Nat.le_succ _) _).fresh (Nat.le_succ _) _⟩
        · have d1 : decide (s.m < (n : Int)) = false := by simp; omega
          have HNM : Hid (¬ s.m < (n : Int)) := hm
          obtain ⟨pp, hpp⟩ : ∃ pp, pp = s.p.toNat := ⟨_, rfl⟩
          have hsp : s.p = (pp : Int) := by have := HG.out; unfold goodStg at this; omega
          rw [hsp] at v1
          have HPP : Hid (pp = s.p.toNat ∧ s.p = (pp : Int) ∧ pp ≤ 64 ∧ n ≤ 512) := ⟨hpp, hsp, by have := HG.out; unfold goodStg at this; omega, by have := HG.out; unfold goodStg at this; omega⟩
          obtain ⟨np, qn, N, hnq, hw1, hw2, hw3, hmx⟩ := many_arith n pp HPP.out.2.2.2 HPP.out.2.2.1
          have HNP : Hid (np = n * pp ∧ np ≤ 32768 ∧ qn = (np + 7) / 8 ∧ N = max 1 qn ∧ 1 ≤ N ∧ N ≤ 4096) := hnq
          obtain ⟨Z5, hZ5⟩ : ∃ Z5, Z5 = madeCells #[.int .u8 0] (N * 1) := ⟨_, rfl⟩
          have hmk : ∀ W : World, (Instr.makeSlice 83 (.int .i64 (N : Int)) (.int .i64 (N : Int))).run Tryz.prog W = .ok (.slice (some ⟨W.heap.size, 0, none⟩) N N) (W.alloc (.cells Z5 5)) := fun W => by rw [hZ5]; exact make_bytes N (Nat.le_trans HNP.out.2.2.2.2.2 (by decide)) W
          have HZ5 : Hid (Z5 = madeCells #[.int .u8 0] (N * 1)) := hZ5
          clear hm hpp hsp hnq hZ5
          go_upto_region 13 with (fail)
          obtain ⟨W2, hW2⟩ : ∃ W2, W2 = wr.alloc (.cells Z5 5) := ⟨_, rfl⟩
          obtain ⟨bb, hbb⟩ : ∃ bb, bb = wr.heap.size := ⟨_, rfl⟩
          have tW2 : Turned (fun _ => False) wr W2 := by rw [hW2]; exact Turned.alloc _ _ _
          have hM2 := HM.out.congr (tW2.block mb HM.out.lt id) fun _ => rfl
          have hB2 := HBR.out.congr (tW2.block mb HM.out.lt id)
          have sl2 : Sl W2 (· = bb) 5 1 (.slice (some ⟨bb, 0, none⟩) N N) (bcells (bytesU N (bitP s (8 * N) []))) N := by
            rw [hW2, HZ5.out, hbb, bitP_none]; exact bytes_sl N (Nat.le_trans HNP.out.2.2.2.2.2 (by decide)) wr _ rfl
          obtain ⟨es, clock, hes, hbo, hbn⟩ := hB2
          obtain ⟨hk, hent⟩ := set_keys hM2 hes
          have hrg : (Instr.range 349 (.map (some mb))).run Tryz.prog W2 = .ok (.pointer (some ⟨W2.heap.size, 0, none⟩)) (W2.alloc (.mapIter (some mb) clock #[] clock)) := run_range_map W2 349 9 276 mb _ _ Tryz.underlying349 hes
          rw [← hbb, ← hW2]
          obtain ⟨r, hr⟩ : ∃ r, r = W2.heap.size := ⟨_, rfl⟩
          obtain ⟨W3, hW3⟩ : ∃ W3, W3 = W2.alloc (.mapIter (some mb) clock #[] clock) := ⟨_, rfl⟩
          have tW3 : Turned (fun _ => False) W2 W3 := by rw [hW3]; exact Turned.alloc _ _ _
          have B3 : Hid (M2Rel s N es clock mb r bb W3 (leftOf es #[]).size W3) :=
            ⟨#[], [], clock, rfl, Visit.start es, by rw [hW3, hr]; exact heap_alloc_new _ _, Nat.le_refl _, by rw [hW3]; exact (alloc_old _ hM2.lt).trans hes, sl2.turned tW3 fun _ _ z => z, Turned.refl _ _⟩
          have HE : Hid (∀ e ∈ es.toList, ∃ p, e.key = .string p ∧ p.size ≤ 1000000000) := fun e he => by
            obtain ⟨p, hp⟩ := hent e he
            have h1 : Value.string p ∈ (once l).map Value.string := hk.mem_iff.1 (hp ▸ List.mem_map.2 ⟨e, he, rfl⟩)
            obtain ⟨p2, h2, h3⟩ := List.mem_map.1 h1
            injection h3 with h3
            exact ⟨p, hp, HL0.out.2.1 p (h3 ▸ once_mem.1 h2)⟩
          have HB : Hid (∀ x ∈ es.toList, x.born < clock) := hbo
          have HNb : Hid ((es.toList.map (·.born)).Nodup) := hbn
          have HK : Hid ((es.toList.map (·.key)).Perm ((once l).map Value.string)) := hk
          have HT3 : Hid (Turned (fun _ => False) wr W3 ∧ bb = wr.heap.size ∧ r = wr.heap.size + 1 ∧ r < W3.heap.size ∧ bb < W3.heap.size) := ⟨tW2.trans tW3 fun _ _ z => z, hbb, by rw [hr, hW2]; simp, by rw [hW3, hr]; simp, by rw [hW3, hbb, hW2]; simp; omega⟩
          have HV3 : Hid (∀ W, Turned (fun b => b = r ∨ b = bb) W3 W → Turned (fun b => b = mb ∨ b = r ∨ b = bb) V W ∧ Turned (fun _ => False) w W ∧ ¬ (w.heap.size = mb ∨ w.heap.size = r ∨ w.heap.size = bb) ∧ ¬ (w.heap.size + 1 = mb ∨ w.heap.size + 1 = r ∨ w.heap.size + 1 = bb)) := fun W t => by
            have t1 : Turned (· = mb) V wr := (TX.out.1.mono fun _ _ z => z.elim).trans HT.out fun _ _ z => z
            have t2 : Turned (· = mb) V W3 := t1.trans HT3.out.1 fun _ _ z => z.elim
            have h1 := TX.out.2.1
            have h2 := TX.out.2.2
            have h3 := t1.size
            have h4 := HT3.out.2.1
            have h5 := HT3.out.2.2.1
            have h6 := HM.out.lt
            refine ⟨t2.comp t fun i _ z => z, ((HWT.out wr HT.out).trans HT3.out.1 fun _ _ z => z).comp t fun i hi z => z.elim id fun z => ?_, by omega, by omega⟩
            have h7 := TV.out.size
            omega
          have hwr : W2.heap.size = r := hr.symm
          rw [hwr, ← hW3] at hrg
          have HW8 : Hid (wrap64 (8 * (N : Int)) = ((8 * N : Nat) : Int)) := by
            have h1 := HNP.out.2.2.2.2.2
            have h2 : wrap64 (8 * (N : Int)) = ((8 * N : Nat) : Int) := by simp only [wrap64]; omega
            exact h2
          clear hW2 hbb tW2 hM2 sl2 hes hbo hbn hk hent hr hW3 tW3 hwr hmk hmx hw1 hw2 hw3 hlen v0 v1 v2 v3 v4 f0 f1 c0 c1 kl d1
          go_wp2
          go_loopg [11] (leftOf es #[]).size (fun g pv wr => M2Rel s N es clock mb r bb W3 g wr)
          case atStart => exact B3.out
          case round =>
            clear B3
            obtain ⟨seen, vis, c0, hg, hvis, hr, hc, hb, hsl, ht⟩ := hrel
            have HG2 : Hid ((leftOf es seen).size = gk) := hg
            have HVS : Hid (Visit es seen vis) := hvis
            have HT2 : Hid (Turned (fun b => b = r ∨ b = bb) W3 wr) := ht
            have HSL : Hid _ := hidS hsl
            clear hvis hsl
            go_wp2_with (first | (at_next; refine wpList_next_es wr rfl _ rfl r mb clock c0 seen es rfl hr hb HB.out HNb.out hc ?_ ?_
                                  (intro h0; have H0 : Hid ((leftOf es seen).size = 0) := h0; clear h0 hg hr hc hb ht)
                                  rotate_left
                                  intro e w3 hem hel hen hr3 hb3 ht3 hz3 hlt
                                  have HL3 : Hid ((leftOf es (seen.push e.born)).size < gk) := (by rw [← hg]; exact hlt : (leftOf es (seen.push e.born)).size < gk)
                                  have T3 : Hid (Turned (fun b => b = r ∨ b = bb) W3 w3) := ht.trans ht3 fun _ _ z => .inl z
                                  have R3 : Hid (w3.heap[r]? = some (.mapIter (some mb) clock (seen.push e.born) clock) ∧ w3.heap[mb]? = some (.map es clock)) := ⟨hr3, hb3⟩
                                  have V3 : Hid (Visit es (seen.push e.born) (vis ++ [e])) := HVS.out.step HNb.out hel
                                  obtain ⟨p, hkey, hps⟩ := HE.out e hem
                                  have HKY : Hid (e.key = .string p ∧ p.size ≤ 1000000000) := ⟨hkey, hps⟩
                                  have SL3 : Hid (Sl w3 (· = bb) 5 1 (.slice (some ⟨bb, 0, none⟩) N N) (bcells (bytesU N (bitP s (8 * N) (vis.map keyB)))) N) := HSL.out.turned ht3 fun b hb z => (by have := HT3.out; omega)
                                  rw [hkey] at hen ⊢
                                  obtain ⟨v0, v1, v2, v3, v4⟩ := HBX.out w3 _ (HV3.out w3 T3.out).1 (HV3.out w3 T3.out).2.2.1
                                  have hpl : Calls Tryz.prog 130 #[.agg #[.int .i64 s.h, .int .i64 s.p, .int .i64 s.m, .int .u32 (s.seed : Nat)], .string p, .int .i64 (wrap64 (8 * (N : Int)))] w3 (PcPost w3 (intsN (placesB s p (8 * N)))) := (by rw [HW8.out]; exact bplaces_any s p (8 * N) w3 HL0.out.2.2 hps (by have := HNP.out.2.2.2.2.2; omega))
                                  have HPL : Hid _ := hidS hpl
                                  clear hem hel hr3 hb3 ht3 hz3 hlt hg hr hc hb ht hkey hps hpl) | (go_at_call 130; (with_reducible refine HPL.out.mono ?_); rintro e5 w5 ⟨v5, rfl, hsl5, ht5⟩; obtain ⟨a5, c5, rfl, -, -⟩ := hsl5.value; have P5 : Hid _ := hidS (And.intro hsl5 ht5); clear hsl5 ht5))
            · obtain ⟨pl, hpl⟩ : ∃ pl, pl = placesB s p (8 * N) := ⟨_, rfl⟩
              have hpl16 : pl.length ≤ 16 := by rw [hpl]; exact placesB_len _ _ _
              have HPLT : Hid (∀ x ∈ pl, x < 8 * N) := fun x hx => by rw [hpl] at hx; exact placesB_lt hx
              have HPD : Hid (pl = placesB s p (8 * N)) := hpl
              rw [← hpl] at P5
              obtain ⟨L5, hL5⟩ : ∃ L5, L5 = (intsN pl).length := ⟨_, rfl⟩
              have HL5 : Hid (L5 = pl.length ∧ L5 = (intsN pl).length ∧ L5 ≤ 16) := ⟨by rw [hL5]; simp [intsN], hL5, by rw [hL5]; simpa [intsN] using hpl16⟩
              rw [← hpl, ← hL5]
              have B5 : Hid (M3Rel s N (vis.map keyB) pl bb w5 L5 (.int .i64 0) w5) := ⟨0, by have := HL5.out; omega, rfl, by rw [List.take_zero, bitQ_none]; exact SL3.out.turned P5.out.2 fun _ _ z => z, Turned.refl _ _⟩
              clear hpl hpl16 hL5 v0 v1 v2 v3 v4 hen HPL
              generalize wr = Wk at *
              generalize hgkk : gk = Gk at *
              clear hgkk
              go_loopg [59] L5 (fun g iv wr => M3Rel s N (vis.map keyB) pl bb w5 g iv wr)
              case atStart => exact B5.out
              case round =>
                clear B5
                obtain ⟨k, hkg, rfl, hsl, ht⟩ := hrel
                have GK : Hid (k + gk = pl.length) := hkg
                have HSK : Hid _ := hidS hsl
                have HTK : Hid (Turned (· = bb) w5 wr) := ht
                clear hkg ht
                by_cases hlt : k < L5
                · obtain ⟨x, hx⟩ : ∃ x, pl[k]? = some x := ⟨_, List.getElem?_eq_getElem (by rw [← HL5.out.1]; exact hlt)⟩
                  have HX : Hid (pl[k]? = some x ∧ x < 8 * N) := ⟨hx, HPLT.out x (List.mem_of_getElem? hx)⟩
                  obtain ⟨g, off, cap2, hva, hgs, -, -, hcell, -, hgl⟩ := P5.out.1.opens (by rw [← HL5.out.2.1]; omega)
                  simp only [Value.slice.injEq] at hva
                  obtain ⟨rfl, -, -⟩ := hva
                  have hgb : ¬ g = bb := by have h1 := HT3.out.2.2.2.2; have h2 := T3.out.size; omega
                  have c0 : wr.cell? ⟨g, off + k, none⟩ = some (.int .i64 (x : Nat)) := cell_at (by
                    rw [hcell k (by rw [← HL5.out.2.1]; omega)]
                    unfold intsN
                    rw [List.getElem?_map, List.getElem?_map, hx]; rfl) HTK.out hgb
                  have hgr : g < wr.heap.size := Nat.lt_of_lt_of_le hgl HTK.out.size
                  obtain ⟨y, hy⟩ : ∃ y, y = x / 8 := ⟨_, rfl⟩
                  obtain ⟨t, htt⟩ : ∃ t, t = x % 8 := ⟨_, rfl⟩
                  have hyN : y < N := by have := HX.out.2; omega
                  obtain ⟨b, hbd⟩ : ∃ b, b = byteP (bitQ s (8 * N) (vis.map keyB) (pl.take k)) y := ⟨_, rfl⟩
                  have hb256 : b < 256 := by rw [hbd]; exact byteP_lt _ _
                  obtain ⟨g2, off2, cap3, hvb, -, -, -, hcell2, hfr2, hgl2⟩ := HSK.out.opens (by have := HNP.out.2.2.2.2.1; omega)
                  simp only [Value.slice.injEq, Option.some.injEq, Addr.mk.injEq] at hvb
                  obtain ⟨⟨rfl, rfl, -⟩, -, rfl⟩ := hvb
                  have c1 : wr.cell? ⟨bb, y, none⟩ = some (.int .u8 (b : Nat)) := by
                    have := hcell2 y (by omega)
                    rw [Nat.zero_add] at this
                    rw [this]
                    unfold bcells
                    rw [List.getElem?_map, bytesU_get _ hyN, ← hbd]
                    simp [UInt8.toNat_ofNat', Nat.mod_eq_of_lt hb256]
                  have f1 := hfr2 y
                  have ht8 : t < 8 := by omega
                  have HYT : Hid (y = x / 8 ∧ t = x % 8 ∧ b = byteP (bitQ s (8 * N) (vis.map keyB) (pl.take k)) y ∧ b < 256) := ⟨hy, htt, hbd, hb256⟩
                  obtain ⟨hw1, hw2⟩ := wrap_nat y (by have := HNP.out.2.2.2.2.2; omega)
                  obtain ⟨hw3, hw4⟩ := wrap_nat t (by omega)
                  obtain ⟨X, hX1, hX2, hX3⟩ := divs x y t hy htt
                  rw [← hX1] at c0
                  have HXX : Hid (X = (x : Int)) := hX1
                  clear hx hcell hgl hX1 hy htt hbd hb256 hcell2 hfr2 hgs hsl
                  obtain ⟨hY1, hY2⟩ := divs_wrap X y hX2 hw1 hw2
                  clear hX2 hw3 hw4
                  rcases (show t = 0 ∨ t = 1 ∨ t = 2 ∨ t = 3 ∨ t = 4 ∨ t = 5 ∨ t = 6 ∨ t = 7 by clear hX3; omega) with rfl | rfl | rfl | rfl | rfl | rfl | rfl | rfl
                  all_goals go_upto_region 19 with (fail)
                  all_goals go_region
                  all_goals go_wp2
                  all_goals
                    go_roundg (gk - 1)
                    case measure => have := GK.out; have := HL5.out; omega
                    case rel =>
                      refine ⟨k + 1, by have := GK.out; have := HL5.out; omega, by have := HL5.out; simp [wrap64]; omega, ?_, (HTK.out.set (p := ⟨bb, y, none⟩) rfl _).draw⟩
                      have e1 : pl.take (k + 1) = pl.take k ++ [x] := by rw [List.take_add_one, HX.out.1]; rfl
                      rw [e1, ← bitQ_snoc]
                      exact bit_set HSK.out HX.out.2 HYT.out.1 HYT.out.2.1 HYT.out.2.2.1 _ (by decide)
                · have hk : pl.take k = pl := List.take_of_length_le (by have := HL5.out; omega)
                  have hkL : k = L5 := by have := GK.out; have := HL5.out; omega
                  have HE5 : Hid (bitQ s (8 * N) (vis.map keyB) (pl.take k) = bitP s (8 * N) ((vis ++ [e]).map keyB)) := hidS (by
                    rw [hk, HPD.out, bitQ_all, List.map_append, List.map_cons, List.map_nil, keyB_eq HKY.out.1])
                  clear hk hlt hsl
                  subst hkL
                  go_wp2
                  go_roundg ((leftOf es (seen.push e.born)).size)
                  case measure => exact HL3.out
                  case rel =>
                    have t5 : Turned (· = bb) w3 wr := (P5.out.2.mono fun _ _ z => z.elim).trans HTK.out fun _ _ z => z
                    have h1 := HT3.out
                    have h2 := T3.out.size
                    have h3 := HM.out.lt
                    refine ⟨seen.push e.born, vis ++ [e], clock, rfl, V3.out, (t5.block r (by omega) (by omega)).trans R3.out.1, Nat.le_refl _, (t5.block mb (by omega) (by omega)).trans R3.out.2, ?_, T3.out.trans t5 fun _ _ z => .inr z⟩
                    rw [← HE5.out]
                    exact HSK.out
            · obtain ⟨q1, q2, q3, q4⟩ := HV3.out wr HT2.out
              have k0 := HFX.out wr _ q1 q4
              have f0 := free_of k0 0
              have f1 := free_of k0 1
              have c0 := cell_of k0 0 _ rfl
              have c1 := cell_of k0 1 _ rfl
              have kl := lt_of_block k0
              clear k0 q1 q3 q4
              have hbk := sl_back (bs := bytesU N (bitP s (8 * N) (vis.map keyB))) (by rw [bytesU_len]; exact HSL.out)
              have hpm := keys_perm (HVS.out.done H0.out) HK.out
              have HMS : Hid (makeF s l = ⟨1, ⟨(bytesU N (bitP s (8 * N) (vis.map keyB))).toArray⟩⟩) := hidS (by
                have e1 : manyB s (once l).length = N := by
                  unfold manyB
                  rw [← HN.out, ← HPP.out.1, ← HNP.out.1, ← HNP.out.2.2.1, ← HNP.out.2.2.2.1]
                rw [makeF_small (by have := HN.out; have := HWM.out; have := HNM.out; omega), e1, bitP_perm hpm])
              have HQ : Hid (Turned (fun _ => False) w wr) := q2
              clear hpm q2
              generalize (bytesU N (bitP s (8 * N) (vis.map keyB))).toArray = BB at *
              have k0' : wr.cell? ⟨w.heap.size + 1, 0, none⟩ = some (.int .i64 0) := c0
              have k1' : wr.cell? ⟨w.heap.size + 1, 1, none⟩ = some (.string ⟨#[]⟩) := c1
              clear c0 c1
              go_simp
              go_wp2
              refine bodyPost_ret (v := .tuple #[fltv ⟨1, ⟨BB⟩⟩, .int .i64 0]) (by simp [results, Tryz.results232, go_sem, k0', k1', kl, f0, f1]) rfl ?_
              rw [HZ.out]
              exact ⟨by unfold mkV; rw [if_pos HG.out, HMS.out], (HQ.out.fresh (Nat.le_succ _) _).fresh (Nat.le_succ _) _⟩
  · rw [if_neg hg] at HCK
    have HE : Hid (mkV s l = .tuple #[fltv ⟨0, ⟨#[]⟩⟩, .int .i64 1]) := hidS (by unfold mkV; rw [if_neg hg])
    clear hZ hV tV xS xF hg h hl hs hsd
    have f0 := HFX.out
    go_enter Tryz.func232, Tryz.ntmps232
    go_wp2_with fail
    rw [← HVV.out]
    go_wp2_with (go_at_call 131; (with_reducible refine HCK.out.mono ?_); rintro e w1 ⟨rfl, q⟩; have k0 := HFX.out w1 _ q id; have f0 := free_of k0 0; have f1 := free_of k0 1; have c0 := cell_of k0 0 _ rfl; have c1 := cell_of k0 1 _ rfl; have kl := lt_of_block k0; replace q : Hid _ := hidS q)
    refine bodyPost_ret (v := .tuple #[fltv ⟨0, ⟨#[]⟩⟩, .int .i64 1]) (by simp [results, Tryz.results232, go_sem, c0, c1, kl, f0, f1]) rfl ?_
    rw [HZ.out]
    exact ⟨by rw [HE.out], ((TV.out.trans q.out fun _ _ z => z).fresh (Nat.le_succ _) _).fresh (Nat.le_succ _) _⟩
end Go.Proofs.YtofcogekgcgjhaaGreatDoor
