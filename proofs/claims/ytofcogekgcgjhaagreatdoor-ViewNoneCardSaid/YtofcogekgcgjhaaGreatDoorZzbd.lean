/- Packed. -/
import Derived.Test.YtofcogekgcgjhaaGreatDoorZzbc
import Derived.Deep.RegionHeld3
import Derived.Deep.AppendSrc
set_option linter.unusedVariables false
set_option linter.unusedSimpArgs false
set_option maxRecDepth 100000
namespace Go.Proofs.YtofcogekgcgjhaaGreatDoor
open Go.RowKit Go.Mine Go.Mine.Ac
set_option maxHeartbeats 1000000 in
theorem sknown_any {w : World} {rs : Nat → Nat} {p : Nat} {dv tv cv : Value} {s : St} (h : StAt 140 w rs p dv tv cv s) {S : Nat → Prop} {a : Option Addr} {cap : Nat} {c : Cm} (hi : Ints w S a cap c.par) :
  Calls Tryz.prog 71 #[pt p, cmv a cap c] w fun e w' => e = .returned (.bool (knownS s c)) ∧ Turned (fun _ => False) w w' := by
 obtain ⟨r, hr⟩ : ∃ r, r = knownS s c := ⟨_, rfl⟩
 have HR : Hid (r = knownS s c) := hr
 rw [← hr]
 obtain ⟨t0, t1, t2⟩ := two_boxes (w := w) (.cells #[pt p] 34) (.cells #[.slice a c.par.length cap, .int .i64 c.tree] 55)
 have HK : Hid (∀ W, Turned (fun _ => False) ((w.alloc (.cells #[pt p] 34)).alloc (.cells #[.slice a c.par.length cap, .int .i64 c.tree] 55)) W → Calls Tryz.prog 157 #[.slice a c.par.length cap, .func (.func 158) #[] #[pt w.heap.size]] W fun e w' => e = .returned (.bool (highI c.par s.commits.length)) ∧ Turned (fun _ => False) ((w.alloc (.cells #[pt p] 34)).alloc (.cells #[.slice a c.par.length cap, .int .i64 c.tree] 55)) w') := fun W q =>
  (kcontains_any ⟨boxed t1 q id, h.turned (t0.trans q fun _ _ z => z) fun _ _ z => z⟩ (hi.turned (t0.trans q fun _ _ z => z) fun _ _ z => z)).mono fun e w' ⟨x, y⟩ => ⟨x, q.trans y fun _ _ z => z⟩
 have T0 : Hid (Turned (fun _ => False) w ((w.alloc (.cells #[pt p] 34)).alloc (.cells #[.slice a c.par.length cap, .int .i64 c.tree] 55))) := t0
 obtain ⟨tvs, hs, -⟩ := h.trees
 obtain ⟨ta, tcap, rfl, -, -⟩ := hs.value
 have hlp := lt_of_block h.blk
 have c2 : w.cell? ⟨p, 1, none⟩ = some (.slice ta s.trees.length tcap) := cell_of h.blk 1 _ rfl
 have hlt := lt_of_block h.blk
 have hk := known_eq s c
 rw [← hr] at hk
 replace hk : Hid _ := hidS hk
 obtain ⟨par, tree⟩ := c
 unfold cmv
 dsimp only at HK T0 hk t1 t2 ⊢
 clear h hs hi hr t0 t1 t2
 generalize s.trees.length = L at *
 generalize s.commits.length = M at *
 generalize par.length = N at *
 have hsz : ((w.alloc (.cells #[pt p] 34)).alloc (.cells #[.slice a N cap, .int .i64 tree] 55)).heap.size = w.heap.size + 2 := by simp
 obtain ⟨V, hV⟩ : ∃ V, V = (w.alloc (.cells #[pt p] 34)).alloc (.cells #[.slice a N cap, .int .i64 tree] 55) := ⟨_, rfl⟩
 have KC : Hid (∀ W, Turned (fun _ => False) V W → W.cell? ⟨w.heap.size, 0, none⟩ = some (pt p) ∧ W.cell? ⟨w.heap.size + 1, 0, none⟩ = some (.slice a N cap) ∧ W.cell? ⟨w.heap.size + 1, 1, none⟩ = some (.int .i64 tree) ∧ W.cell? ⟨p, 1, none⟩ = some (.slice ta L tcap)) := hidS fun W q => by
  obtain ⟨u0, u1, u2⟩ := two_boxes (w := w) (.cells #[pt p] 34) (.cells #[.slice a N cap, .int .i64 tree] 55)
  rw [hV] at q
  have v1 := boxed u1 q id
  have v2 := boxed u2 q id
  exact ⟨cell_of v1 0 _ rfl, cell_of v2 0 _ rfl, cell_of v2 1 _ rfl, cell_at c2 (u0.trans q fun _ _ z => z) id⟩
 have HZ : Hid (V.heap.size = w.heap.size + 2) := hidS (by rw [hV]; exact hsz)
 rw [← hV] at HK T0
 have HVV : Hid (V = (w.alloc (.cells #[pt p] 34)).alloc (.cells #[.slice a N cap, .int .i64 tree] 55)) := hV
 clear hsz hV
 by_cases hx : tree < (L : Int)
 ·have e1 : decide (tree < (L : Int)) = true := decide_eq_true hx
  rw [e1, Bool.true_and] at hk
  clear hx
  go_enter Tryz.func71, Tryz.ntmps71
  go_wp2_with fail
  rw [← HVV.out]
  have V0 : Turned (fun _ => False) V V.drew := Turned.drew _ _
  go_region_held3 (fun W => W.cell? ⟨w.heap.size, 0, none⟩ = some (pt p) ∧ W.cell? ⟨w.heap.size + 1, 0, none⟩ = some (.slice a N cap) ∧ W.cell? ⟨w.heap.size + 1, 1, none⟩ = some (.int .i64 tree) ∧ W.cell? ⟨p, 1, none⟩ = some (.slice ta L tcap))
   (first | (exact KC.out _ (by assumption)) | go_keep)
   (first | (go_at_call 157; (with_reducible refine (HK.out _ V0).mono ?_); rintro e w2 ⟨rfl, V1⟩))
  go_wp2
  go_ret
  exact ⟨by rw [hk.out]; rfl, T0.out.trans V1 fun _ _ q => q⟩
 ·have e1 : decide (tree < (L : Int)) = false := decide_eq_false hx
  rw [e1, Bool.false_and] at hk
  clear hx HK
  go_enter Tryz.func71, Tryz.ntmps71
  go_wp2_with fail
  go_region
  go_wp2
  go_ret
  exact ⟨by rw [hk.out]; rfl, by rw [← HVV.out]; exact T0.out.draw⟩
/-! ### Plain -/
theorem encT_err {t : List Ent} {k : Nat} (h : encT t = .error k) : k ≠ 0 := by
 unfold encT at h
 split at h
 ·cases h; decide
 ·split at h
  ·cases h
  ·rename_i q; cases h; exact q
theorem encT_ok {t : List Ent} {b : ByteArray} (h : encT t = .ok b) : TreeOk t ∧ b = bya (toldT t) := by
 unfold encT at h
 split at h
 ·cases h
 ·split at h
  ·rename_i q1 q2; cases h; exact ⟨⟨by omega, q2⟩, rfl⟩
  ·cases h
theorem encC_err {c : Cm} {k : Nat} (h : encC c = .error k) : k ≠ 0 := by
 unfold encC at h
 split at h
 ·cases h
 ·rename_i q; cases h; exact q
theorem encC_ok {c : Cm} {b : ByteArray} (h : encC c = .ok b) : checkC c = 0 ∧ b = bya (toldC c) := by
 unfold encC at h
 split at h
 ·rename_i q; cases h; exact ⟨q, rfl⟩
 ·cases h
theorem bya_size (l : List UInt8) : (bya l).size = l.length := by simp [bya, ByteArray.size]
theorem encT_size {t : List Ent} {b : ByteArray} (h : encT t = .ok b) : b.size ≤ 267266 := by
 obtain ⟨h1, rfl⟩ := encT_ok h
 rw [bya_size]; exact toldT_len h1
theorem encC_size {c : Cm} {b : ByteArray} (h : encC c = .ok b) : b.size ≤ 1000 := by
 obtain ⟨h1, rfl⟩ := encC_ok h
 rw [bya_size]
 unfold toldC
 obtain ⟨h2, -, -⟩ := checkC_ok h1
 have : ∀ l : List Int, (l.flatMap fun p => num p.toNat 4).length = 4 * l.length := fun l => by
  induction l with
  | nil => rfl
  | cons x l ih => rw [List.flatMap_cons, List.length_append, ih, num_length, List.length_cons]; omega
 rw [List.length_append, List.length_append, num_length, num_length, this]
 omega
theorem toldF_size (k : Nat) (b : ByteArray) : (toldF ⟨k, b⟩).size = b.size + 9 := by
 rw [toldF_eq]
 have : ∀ l : List UInt8, (⟨l.toArray⟩ : ByteArray).size = l.length := bya_size
 rw [this, List.length_append, num_length]
 unfold frB
 rw [List.length_append, List.length_append, num_length, num_length, bsize]
 dsimp only
 omega
/-! ### What is left -/
def AdTo (w : World) (SD : Nat → Prop) (rs : Nat → Nat) (d p : Nat) (D' : Dk) (s' : St) (w' : World) : Prop :=
 ∃ SD' rs' tv' cv', FsIs w' SD' d D' ∧ (∀ b, SD' b → SD b ∨ w.heap.size ≤ b) ∧ (∀ b, SD' b → b < w'.heap.size) ∧ StAt 140 w' rs' p (pt d) tv' cv' s' ∧ (∀ b, rs' b ≠ 0 → rs b ≠ 0 ∨ w.heap.size ≤ b) ∧ (∀ b, SD' b → rs' b = 0) ∧ Turned (fun b => SD b ∨ rs b ≠ 0) w w'
theorem WrTo.after {w w1 w' : World} {SD : Nat → Prop} {d p : Nat} {rs : Nat → Nat} {tv cv : Value} {D' : Dk} {s' : St} (h : WrTo w1 SD d p rs tv cv D' s' w') (t : Turned (fun _ => False) w w1) : WrTo w SD d p rs tv cv D' s' w' := by
 obtain ⟨S1, g1, g2, g3, g4, g5⟩ := h
 exact ⟨S1, g1, fun b hb => (g2 b hb).imp id fun q => Nat.le_trans t.size q, g3, g4, t.comp g5 fun i _ q => q.elim False.elim id⟩
theorem WrTo.ad {w w' : World} {SD : Nat → Prop} {d p : Nat} {rs : Nat → Nat} {tv cv : Value} {D' : Dk} {s' : St} (h : WrTo w SD d p rs tv cv D' s' w') (hdis : ∀ b, SD b → rs b = 0) (hbs : ∀ b, rs b ≠ 0 → b < w.heap.size) : AdTo w SD rs d p D' s' w' := by
 obtain ⟨S1, g1, g2, g3, g4, g5⟩ := h
 refine ⟨S1, rs, tv, cv, g1, g2, g3, g4, fun b hb => .inl hb, fun b hb => ?_, g5.mono fun i _ q => q.imp id fun q => by rw [q, g4.r1]; decide⟩
 rcases g2 b hb with q | q
 ·exact hdis b q
 ·apply Classical.byContradiction
  intro z
  have := hbs b z
  omega
theorem AdTo.stay {w w' : World} {SD : Nat → Prop} {d p : Nat} {rs : Nat → Nat} {tv cv : Value} {D : Dk} {s : St} (hD : FsIs w SD d D) (h : StAt 140 w rs p (pt d) tv cv s) (hdis : ∀ b, SD b → rs b = 0) (hbd : ∀ b, SD b → b < w.heap.size) (t : Turned (fun _ => False) w w') : AdTo w SD rs d p D s w' :=
 ⟨SD, rs, tv, cv, hD.turned t fun _ _ q => q, fun b hb => .inl hb, fun b hb => Nat.lt_of_lt_of_le (hbd b hb) t.size, h.turned t fun _ _ q => q, fun b hb => .inl hb, hdis, t.mono fun _ _ q => q.elim⟩
theorem AdTo.draw {w w' : World} {SD : Nat → Prop} {d p : Nat} {rs : Nat → Nat} {D : Dk} {s : St} (h : AdTo w SD rs d p D s w') : AdTo w SD rs d p D s w'.drew := by
 obtain ⟨SD', rs', tv', cv', a, b, c, e, f, g, i⟩ := h
 exact ⟨SD', rs', tv', cv', a.turned (Turned.drew (fun _ => False) _) fun _ _ q => q, b, c, e.turned (Turned.drew (fun _ => False) _) fun _ _ q => q, f, g, i.draw⟩
/-! ### A tree is laid in -/
theorem info65 : (Tryz.prog.info? 65).map (fun i => (i.zero, i.size, i.bytes)) = some (some (.slice none 0 0), 1, 24) := by kernel_rfl
theorem tree_done {w w2 w3 W3 w4 : World} {SD : Nat → Prop} {rs : Nat → Nat} {d p : Nat} {D' : Dk} {tv cv v v' : Value} {tvs : List Value} {s : St} {t : List Ent}
  (hw : WrTo w SD d p rs tv cv D' s w2) (hdis : ∀ b, SD b → rs b = 0) (hbs : ∀ b, rs b ≠ 0 → b < w.heap.size)
  (hl : ∀ x ∈ t, x.2 < 4294967296) (hts : Sl w2 (fun b => rs b = 2) 65 1 tv tvs s.trees.length) (htr : ∀ (i : Nat) (t : List Ent), s.trees[i]? = some t → ∃ a cap, tvs[i]? = some (.slice a t.length cap) ∧ Ents w2 (fun b => rs b = 4) a cap t)
  (t3 : Turned (fun _ => False) w2 w3) (hv : Sl w3 (fun b => w2.heap.size ≤ b) 96 2 v (ecells t) t.length) (t3' : Turned (fun _ => False) w3 W3)
  (t4 : Turned (fun b => rs b = 2) W3 w4) (hs : Sl w4 (More (fun b => rs b = 2) W3) 65 1 v' (tvs ++ [v]) (s.trees.length + 1)) :
  AdTo w SD rs d p D' { s with trees := s.trees ++ [t] } (w4.setCell ⟨p, 1, none⟩ v') := by
 obtain ⟨S1, g1, g2, g3, g4, g5⟩ := hw
 have hd1 : ∀ b, S1 b → rs b = 0 := fun b hb => by
  rcases g2 b hb with q | q
  ·exact hdis b q
  ·apply Classical.byContradiction
   intro z
   have := hbs b z
   omega
 have s2 := g5.size
 have s3 := t3.size
 have s3' := t3'.size
 have s4 := t4.size
 have r1 := g4.r1
 have hp2 := g4.bnd p (by omega)
 have T3 : Turned (fun _ => False) w2 W3 := t3.trans t3' fun _ _ q => q
 have T4 : Turned (fun b => rs b = 2) w2 w4 := T3.comp t4 fun i _ q => q.elim False.elim id
 have ts : Turned (· = p) w4 (w4.setCell ⟨p, 1, none⟩ v') := Turned.setCell (S := (· = p)) (p := ⟨p, 1, none⟩) rfl _
 have T5 : Turned (fun b => rs b = 2 ∨ b = p) w2 (w4.setCell ⟨p, 1, none⟩ v') := T4.comp ts fun i _ q => q
 have hsz : (w4.setCell ⟨p, 1, none⟩ v').heap.size = w4.heap.size := setCell_size _ _ _
 obtain ⟨rs', hrs⟩ : ∃ rs' : Nat → Nat, rs' = fun b => if b < w2.heap.size then rs b else if b < w3.heap.size then 4 else if b < W3.heap.size then 0 else if b < w4.heap.size then 2 else 0 := ⟨_, rfl⟩
 have r_old : ∀ b, b < w2.heap.size → rs' b = rs b := fun b hb => by rw [hrs]; simp only [if_pos hb]
 have r_cl : ∀ b, w2.heap.size ≤ b → b < w3.heap.size → rs' b = 4 := fun b h1 h2 => by rw [hrs]; simp only; rw [if_neg (by omega), if_pos h2]
 have r_new : ∀ b, W3.heap.size ≤ b → b < w4.heap.size → rs' b = 2 := fun b h1 h2 => by rw [hrs]; simp only; rw [if_neg (by omega), if_neg (by omega), if_neg (by omega), if_pos h2]
 have r_bnd : ∀ b, rs' b ≠ 0 → b < w4.heap.size := fun b hb => by
  rw [hrs] at hb; simp only at hb
  split at hb
  ·omega
  ·split at hb
   ·omega
   ·split at hb
    ·omega
    ·split at hb
     ·assumption
     ·exact absurd rfl hb
 have r_keep : ∀ b, rs b ≠ 0 → rs' b = rs b := fun b hb => r_old b (by have := g4.bnd b hb; omega)
 refine ⟨S1, rs', v', cv, g1.turned T5 fun b hb q => ?_, g2, fun b hb => by rw [hsz]; have := g3 b hb; omega, ⟨by rw [r_keep p (by omega), r1], ?_, ?_, ?_, fun b hb => by rw [hsz]; exact r_bnd b hb⟩, fun b hb => ?_, fun b hb => by rw [r_old b (g3 b hb)]; exact hd1 b hb, g5.comp T5 fun i hi q => ?_⟩
 ·have := hd1 b hb
  rcases q with q | q
  ·omega
  ·rw [q] at this; omega
 ·have h4 : w4.heap[p]? = w2.heap[p]? := T4.block p hp2 (by omega)
  have hb := h4.trans g4.blk
  have := Go.Mine.heap_setCell_same hb (o := 1) v'
  simpa [Blk] using this
 ·refine ⟨tvs ++ [v], ?_, fun i u hi => ?_⟩
  ·have := (hs.turned ts fun b hb q => by
    rcases hb with hb | hb
    ·rw [q, r1] at hb; omega
    ·omega)
   rw [List.length_append]
   refine sl_widenB this fun b hb q => ?_
   rw [hsz] at hb
   rcases q with q | q
   ·rw [r_keep b (by omega)]; exact q
   ·exact r_new b q hb
  ·rw [List.getElem?_append] at hi
   have hlen : tvs.length = s.trees.length := by have := hts.1; omega
   split at hi
   ·rename_i q
    obtain ⟨a, cap, e1, e2⟩ := htr i u hi
    refine ⟨a, cap, by rw [List.getElem?_append_left (by omega)]; exact e1, (e2.turned T5 fun b hb z => ?_).mono fun b hb => by rw [r_keep b (by omega)]; exact hb⟩
    rcases z with z | z
    ·omega
    ·rw [z, r1] at hb; omega
   ·rename_i q
    obtain ⟨a, cap, hva, he⟩ := sl_ents (sl_widenB hv (T := fun b => w2.heap.size ≤ b ∧ b < w3.heap.size) fun b h1 h2 => ⟨h2, h1⟩) hl
    have h0 : i - s.trees.length = 0 := by
     have := (List.getElem?_eq_some_iff.1 hi).1
     simpa using this
    rw [h0] at hi
    obtain rfl : t = u := by simpa using hi
    refine ⟨a, cap, by rw [List.getElem?_append_right (by omega), show i - tvs.length = 0 by omega, hva]; rfl, ((he.turned t3' fun _ _ z => z).turned (t4.comp ts fun i _ q => q) fun b hb z => ?_).mono fun b hb => r_cl b hb.1 hb.2⟩
    rcases z with z | z
    ·have := g4.bnd b (by omega); omega
    ·omega
 ·refine CommitsAt.roles (g4.commits.keep T5 fun b hb z => ?_) fun b hb => r_keep b hb
  rcases z with z | z
  ·omega
  ·rw [z, r1] at hb; omega
 ·by_cases q : b < w2.heap.size
  ·rw [r_old b q] at hb
   exact .inl hb
  ·exact .inr (by omega)
 ·rcases q with q | q | q
  ·exact q.imp id fun q => by rw [q]; omega
  ·exact .inr (by omega)
  ·exact .inr (by rw [q]; omega)
def AtPost (w : World) (SD : Nat → Prop) (rs : Nat → Nat) (d p : Nat) (r : Dk × St × Int × Nat) (e : Ending) (w' : World) : Prop :=
 e = .returned (.tuple #[.int .i64 r.2.2.1, .int .i64 (r.2.2.2 : Nat)]) ∧ AdTo w SD rs d p r.1 r.2.1 w'
theorem addTree_err {D : Dk} {s : St} {t : List Ent} {k : Nat} (h1 : s.dead = false) (h : encT t = .error k) : addTree D s t = (D, s, 0, k) := by unfold addTree; rw [h1, h]; rfl
theorem addTree_dead {D : Dk} {s : St} {t : List Ent} (h1 : s.dead = true) : addTree D s t = (D, s, 0, 8) := by unfold addTree; rw [h1]; rfl
theorem addTree_full {D : Dk} {s : St} {t : List Ent} {b : ByteArray} (h1 : s.dead = false) (h : encT t = .ok b) (h2 : 65536 ≤ s.trees.length) : addTree D s t = (D, s, 0, 7) := by
 unfold addTree; rw [h1, h]; simp only [Bool.false_eq_true, if_false]; rw [if_pos h2]
theorem addTree_bad {D D1 : Dk} {s s1 : St} {t : List Ent} {b : ByteArray} {k : Nat} (h1 : s.dead = false) (h : encT t = .ok b) (h2 : ¬ 65536 ≤ s.trees.length) (h3 : writeS D s 1 b = (D1, s1, k)) (hk : k ≠ 0) : addTree D s t = (D1, s1, 0, k) := by
 unfold addTree; rw [h1, h]; simp only [Bool.false_eq_true, if_false]; rw [if_neg h2, h3]
 cases k with
 | zero => exact absurd rfl hk
 | succ k => rfl
theorem addTree_good {D D1 : Dk} {s s1 : St} {t : List Ent} {b : ByteArray} (h1 : s.dead = false) (h : encT t = .ok b) (h2 : ¬ 65536 ≤ s.trees.length) (h3 : writeS D s 1 b = (D1, s1, 0)) : addTree D s t = (D1, { s1 with trees := s1.trees ++ [t] }, ((s1.trees.length : Nat) : Int), 0) := by
 unfold addTree; rw [h1, h]; simp only [Bool.false_eq_true, if_false]; rw [if_neg h2, h3]; rfl
theorem writeS_trees (D : Dk) (s : St) (k : Nat) (b : ByteArray) : (writeS D s k b).2.1.trees = s.trees ∧ (writeS D s k b).2.1.commits = s.commits := by
 unfold writeS
 generalize D.append logB (toldF ⟨k, b⟩) = r
 obtain ⟨D1, k⟩ := r
 cases k with
 | zero => exact ⟨rfl, rfl⟩
 | succ k => exact ⟨rfl, rfl⟩
set_option maxHeartbeats 1000000 in
theorem saddTree_any {w : World} {SD S : Nat → Prop} {d p : Nat} {D : Dk} {rs : Nat → Nat} {tv cv : Value} {s : St} {a : Option Addr} {cap : Nat} {t : List Ent} (hD : FsIs w SD d D) (hok : D.Ok) (h : StAt 140 w rs p (pt d) tv cv s) (hdis : ∀ b, SD b → rs b = 0) (hbd : ∀ b, SD b → b < w.heap.size)
  (hi : Ents w S a cap t) (hS : ∀ b, S b → ¬ SD b ∧ rs b = 0) (htl : t.length ≤ 1000000000) :
  Calls Tryz.prog 21 #[pt p, .slice a t.length cap] w (AtPost w SD rs d p (addTree D s t)) := by
 obtain ⟨Z, hZ⟩ : ∃ Z, Z = AtPost w SD rs d p (addTree D s t) := ⟨_, rfl⟩
 have HZ : Hid (Z = AtPost w SD rs d p (addTree D s t)) := hZ
 rw [← hZ]
 have hop := sopen_any h
 have c1 : w.cell? ⟨p, 1, none⟩ = some tv := cell_of h.blk 1 _ rfl
 have hlp := lt_of_block h.blk
 have STAY : Hid (∀ w', Turned (fun _ => False) w w' → AdTo w SD rs d p D s w') := fun w' q => AdTo.stay hD h hdis hbd q
 cases hdead : s.dead with
 | true =>
  have HC : Hid (addTree D s t = (D, s, 0, 8)) := addTree_dead hdead
  rw [hdead] at hop
  clear hD h hZ hi hdead
  go_enter Tryz.func21, Tryz.ntmps21
  go_wp2_with (go_at_call 66; (with_reducible refine hop.mono ?_); rintro e w1 ⟨rfl, rfl⟩)
  rw [HZ.out]
  exact ⟨by rw [HC.out]; rfl, by rw [HC.out]; exact STAY.out _ (Turned.refl _ _)⟩
 | false =>
  rw [hdead] at hop
  have hen := tencode_any w hi htl
  unfold TePost at hen
  cases he : encT t with
  | error k =>
   have HC : Hid (addTree D s t = (D, s, 0, k)) := addTree_err hdead he
   rw [he] at hen
   have hk := encT_err he
   have e3 : ((k : Int) == 0) = false := by simp; omega
   have e4 : ((k : Int) != 0) = true := by simp; omega
   unfold exV at hen
   dsimp only at hen
   clear hD h hZ hi hdead he hk
   go_enter Tryz.func21, Tryz.ntmps21
   go_wp2_with (first | (go_at_call 66; (with_reducible refine hop.mono ?_); rintro e w1 ⟨rfl, rfl⟩) | (go_at_call 67; (with_reducible refine hen.mono ?_); rintro e w1 ⟨rfl, q⟩; replace q : Hid _ := hidS q))
   rw [HZ.out]
   exact ⟨by rw [HC.out]; rfl, by rw [HC.out]; exact STAY.out _ q.out⟩
  | ok body =>
   rw [he] at hen
   unfold exV at hen
   dsimp only at hen
   obtain ⟨tvs, hts, htr⟩ := h.trees
   obtain ⟨ta, tcap, rfl, -, -⟩ := hts.value
   obtain ⟨n, hn⟩ : ∃ n, n = s.trees.length := ⟨_, rfl⟩
   by_cases hfull : 65536 ≤ n
   ·have HC : Hid (addTree D s t = (D, s, 0, 7)) := addTree_full hdead he (by rw [← hn]; exact hfull)
    rw [← hn] at c1
    have d1 : decide ((65536 : Int) ≤ (n : Int)) = true := by simp; omega
    have d2 : decide (65536 ≤ n) = true := by simp; omega
    have C1 : Hid (∀ W, Turned (fun _ => False) w W → W.cell? ⟨p, 1, none⟩ = some (.slice ta n tcap) ∧ p < W.heap.size) := fun W q => ⟨cell_at c1 q id, Nat.lt_of_lt_of_le hlp q.size⟩
    clear hD h hZ hi hdead he hts htr hfull htl hS hok hdis hbd hn
    go_enter Tryz.func21, Tryz.ntmps21
    go_wp2_with (first | (go_at_call 66; (with_reducible refine hop.mono ?_); rintro e w1 ⟨rfl, rfl⟩) | (go_at_call 67; (with_reducible refine hen.mono ?_); rintro e w1 ⟨rfl, q⟩; obtain ⟨k1, k2⟩ := C1.out _ q; replace q : Hid _ := hidS q))
    rw [HZ.out]
    exact ⟨by rw [HC.out]; rfl, by rw [HC.out]; exact STAY.out _ q.out⟩
   ·have hb := encT_size he
    obtain ⟨D1, s1, K, hwr⟩ : ∃ D1 s1 K, writeS D s 1 body = (D1, s1, K) := ⟨_, _, _, rfl⟩
    have hst := writeS_trees D s 1 body
    have HW : Hid (∀ w1, Turned (fun _ => False) w w1 → Calls Tryz.prog 68 #[pt p, .int .i64 1, .string body] w1 fun e w' => e = .returned (.int .i64 (K : Nat)) ∧ WrTo w SD d p rs (.slice ta n tcap) cv D1 s1 w') := fun w1 q => by
     have := swrite_any (hD.turned q fun _ _ z => z) hok (h.turned q fun _ _ z => z) hdis (fun b hb => Nat.lt_of_lt_of_le (hbd b hb) q.size) 1 body (by omega) (by omega) (by omega) (by rw [toldF_size]; omega)
     rw [hwr] at this
     exact this.mono fun e w' ⟨x, y⟩ => ⟨x, by rw [hn]; exact y.after q⟩
    rw [hwr] at hst
    obtain ⟨hst1, hst2⟩ := hst
    dsimp only at hst1 hst2
    rw [← hn] at c1
    have d1 : decide ((65536 : Int) ≤ (n : Int)) = false := by simp; omega
    have d2 : decide (65536 ≤ n) = false := by simp; omega
    have C1 : Hid (∀ W, Turned (fun _ => False) w W → W.cell? ⟨p, 1, none⟩ = some (.slice ta n tcap) ∧ p < W.heap.size) := fun W q => ⟨cell_at c1 q id, Nat.lt_of_lt_of_le hlp q.size⟩
    by_cases hK : K = 0
    ·subst hK
     have HC : Hid (addTree D s t = (D1, { s1 with trees := s1.trees ++ [t] }, ((s1.trees.length : Nat) : Int), 0)) := addTree_good hdead he (by rw [← hn]; exact hfull) hwr
     have hn1 : s1.trees.length = n := by rw [hst1, hn]
     have HN : Hid (s1.trees.length = n) := hn1
     -- what lies at the disk and the store behind write
     have HX : Hid (∀ w2, WrTo w SD d p rs (.slice ta n tcap) cv D1 s1 w2 → Turned (fun b => SD b ∨ b = p) w w2 ∧ w2.cell? ⟨p, 1, none⟩ = some (.slice ta n tcap) ∧ p < w2.heap.size) := fun w2 q => by
      obtain ⟨S1, g1, g2, g3, g4, g5⟩ := q
      exact ⟨g5, cell_of g4.blk 1 _ rfl, lt_of_block g4.blk⟩
     have hpp := h.r1
     have hSp : ∀ b, S b → ¬ (SD b ∨ b = p) := fun b hb q => q.elim (hS b hb).1 fun q => by have := (hS b hb).2; rw [q, hpp] at this; omega
     have hSl : ∀ {w2}, Turned (fun b => SD b ∨ b = p) w w2 → Sl w2 (fun b => rs b = 2) 65 1 (.slice ta n tcap) tvs n := fun q => by
      rw [hn]
      refine hts.turned q fun b hb z => ?_
      rcases z with z | z
      ·have := hdis b z; omega
      ·rw [z, hpp] at hb; omega
     have HCL : Hid (∀ w2 W, Turned (fun b => SD b ∨ b = p) w w2 → Turned (fun _ => False) w2 W → Calls Tryz.prog 69 #[.slice a t.length cap] W fun e w' => ∃ v, e = .returned v ∧ Sl w' (fun b => w2.heap.size ≤ b) 96 2 v (ecells t) t.length ∧ Turned (fun _ => False) w2 w') := fun w2 W q2 q => by
      have he2 : Ents W S a cap t := (hi.turned q2 hSp).turned q fun _ _ z => z
      refine (clone_ents (a := a) (n := t.length) (cap := cap) (xs := ecells t) W (fun w' z => ents_src (he2.turned z fun _ _ y => y)) (fun z => by subst z; exact ents_nil he2) htl).mono fun e w' ⟨v, x1, x2, x3⟩ => ⟨v, x1, x2.widen fun b hb => Nat.le_trans q.size hb, q.trans x3 fun _ _ z => z⟩
     have HSL : Hid (∀ w2 W, Turned (fun b => SD b ∨ b = p) w w2 → Turned (fun _ => False) w2 W → Sl W (fun b => rs b = 2) 65 1 (.slice ta n tcap) tvs n) := fun w2 W q2 q => (hSl q2).turned q fun _ _ z => z
     have HP4 : Hid (∀ w2 w3 w4, Turned (fun b => SD b ∨ b = p) w w2 → Turned (fun _ => False) w2 w3 → Turned (fun b => rs b = 2) w3 w4 → WrTo w SD d p rs (.slice ta n tcap) cv D1 s1 w2 → w4.cell? ⟨p, 1, none⟩ = some (.slice ta n tcap) ∧ w4.frozen? ⟨p, 1, none⟩ = false ∧ p < w4.heap.size) := fun w2 w3 w4 q2 q3 q4 z => by
      obtain ⟨S1, g1, g2, g3, g4, g5⟩ := z
      have hb := boxed (boxed g4.blk q3 id) q4 (by rw [hpp]; decide)
      exact ⟨cell_of hb 1 _ rfl, free_of hb 1, lt_of_block hb⟩
     have DONE : Hid (∀ w2 w3 W3 w4 v v', WrTo w SD d p rs (.slice ta n tcap) cv D1 s1 w2 → Turned (fun _ => False) w2 w3 → Sl w3 (fun b => w2.heap.size ≤ b) 96 2 v (ecells t) t.length → Turned (fun _ => False) w3 W3 → Turned (fun b => rs b = 2) W3 w4 → Sl w4 (More (fun b => rs b = 2) W3) 65 1 v' (tvs ++ [v]) (n + 1) →
       AdTo w SD rs d p D1 { s1 with trees := s1.trees ++ [t] } (w4.setCell ⟨p, 1, none⟩ v')) := fun w2 w3 W3 w4 v v' q1 q2 q3 q4 q5 q6 => by
      have hT : Turned (fun b => SD b ∨ b = p) w w2 := by obtain ⟨_, _, _, _, _, z⟩ := q1; exact z
      refine tree_done q1 hdis h.bnd hi.2.2.1 (by rw [hn1]; exact hSl hT) (fun i u hu => ?_) q2 q3 q4 q5 (by rw [hn1]; exact q6)
      rw [hst1] at hu
      obtain ⟨a', cap', e1, e2⟩ := htr i u hu
      refine ⟨a', cap', e1, e2.turned hT fun b hb z => ?_⟩
      rcases z with z | z
      ·have := hdis b z; omega
      ·rw [z, hpp] at hb; omega
     have m1 : Hid (n + 1 ≤ maxLen ∧ (n + 1) * 24 ≤ 140737488355328) := hidS ⟨by simp only [maxLen]; omega, by omega⟩
     have HWW : Hid (wrap64 ((n : Nat) : Int) = (n : Int)) := hidS (by simp only [wrap64]; omega)
     clear hD h hZ hi hdead he hts htr hfull hb hst1 hst2 hwr htl hS hok hdis hbd hn hn1 hSp hSl hpp
     go_enter Tryz.func21, Tryz.ntmps21
     go_wp2_with (first | (go_at_call 66; (with_reducible refine hop.mono ?_); rintro e w1 ⟨rfl, rfl⟩) | (go_at_call 67; (with_reducible refine hen.mono ?_); rintro e w1 ⟨rfl, q⟩; obtain ⟨k1, k2⟩ := C1.out _ q; replace q : Hid _ := hidS q) | (go_at_call 68; (with_reducible refine (HW.out _ q.out).mono ?_); rintro e w2 ⟨rfl, z⟩; obtain ⟨x1, x2, x3⟩ := HX.out _ z; replace x1 : Hid _ := hidS x1; replace z : Hid _ := hidS z; clear k1 k2 hlp c1))
     go_region_law ((first | (go_simp; go_at_call 69; (first | (with_reducible refine (HCL.out _ _ x1.out (Turned.refl _ _)).mono ?_) | (with_reducible refine (HCL.out _ _ x1.out (Turned.drew _ _)).mono ?_)); rintro e w3 ⟨v, rfl, hsl, ht⟩; obtain ⟨ca, cc, rfl, -, -⟩ := hsl.value; obtain ⟨y1, y2, y3⟩ := HP4.out w2 w3 w3 x1.out ht (Turned.refl _ _) z.out; have Y : Hid (Sl w3 (fun b => w2.heap.size ≤ b) 96 2 (.slice ca t.length cc) (ecells t) t.length ∧ Turned (fun _ => False) w2 w3) := ⟨hsl, ht⟩; clear hsl ht) | (refine step_append (by rfl) _ _ 75 75 (by rfl) (HSL.out w2 _ x1.out (Y.out.2.new _)) Tryz.underlying75 info65 rfl (by decide) (by rfl) (.slice (some ⟨w3.heap.size, 0, none⟩) 1 1) (by rfl) (src_new 65 Tryz.underlying75 [.slice ca t.length cc] (by simp [Value.oneCell']) w3) m1.out.1 m1.out.2 ?_; intro v' w4 hsl4 ht4; obtain ⟨a4, c4, rfl, -, -⟩ := hsl4.value; obtain ⟨y4, y5, y6⟩ := HP4.out w2 _ w4 x1.out (Y.out.2.new _) ht4 z.out; have Y4 : Hid _ := hidS (DONE.out w2 w3 _ w4 _ _ z.out Y.out.2 Y.out.1 (Turned.alloc _ _ _) ht4 hsl4); clear hsl4 ht4)))
     all_goals go_wp2
     all_goals rw [HZ.out]
     all_goals exact ⟨by rw [HC.out]; dsimp only; rw [HN.out]; exact congrArg (fun i : Int => Ending.returned (.tuple #[.int .i64 i, .int .i64 0])) HWW.out, by rw [HC.out]; exact Y4.out⟩
    ·have HC : Hid (addTree D s t = (D1, s1, 0, K)) := addTree_bad hdead he (by rw [← hn]; exact hfull) hwr hK
     have AD : Hid (∀ w', WrTo w SD d p rs (.slice ta n tcap) cv D1 s1 w' → AdTo w SD rs d p D1 s1 w') := fun w' q => q.ad hdis h.bnd
     have e3 : ((K : Int) == 0) = false := by simp; omega
     have e4 : ((K : Int) != 0) = true := by simp; omega
     clear hD h hZ hi hdead he hts htr hfull hb hst1 hst2 hwr htl hS hok hdis hbd hn hK
     go_enter Tryz.func21, Tryz.ntmps21
     go_wp2_with (first | (go_at_call 66; (with_reducible refine hop.mono ?_); rintro e w1 ⟨rfl, rfl⟩) | (go_at_call 67; (with_reducible refine hen.mono ?_); rintro e w1 ⟨rfl, q⟩; obtain ⟨k1, k2⟩ := C1.out _ q; replace q : Hid _ := hidS q) | (go_at_call 68; (with_reducible refine (HW.out _ q.out).mono ?_); rintro e w2 ⟨rfl, z⟩; replace z : Hid _ := hidS z))
     rw [HZ.out]
     exact ⟨by rw [HC.out]; rfl, by rw [HC.out]; exact AD.out _ z.out⟩
theorem info55 : (Tryz.prog.info? 55).map (fun i => (i.zero, i.size, i.bytes)) = some (some (.agg #[.slice none 0 0, .int .i64 0]), 2, 32) := by kernel_rfl
theorem commit_done {w w2 w3 W3 w4 : World} {SD : Nat → Prop} {rs : Nat → Nat} {d p : Nat} {D' : Dk} {tv cv v v' : Value} {tvs : List Value} {s : St} {c : Cm}
  (hw : WrTo w SD d p rs tv cv D' s w2) (hdis : ∀ b, SD b → rs b = 0) (hbs : ∀ b, rs b ≠ 0 → b < w.heap.size)
  (hl : ∀ x ∈ c.par, I64 x) (hts : Sl w2 (fun b => rs b = 3) 55 2 cv tvs s.commits.length) (htr : ∀ (i : Nat) (c : Cm), s.commits[i]? = some c → ∃ a cap, tvs[i * 2]? = some (.slice a c.par.length cap) ∧ tvs[i * 2 + 1]? = some (.int .i64 c.tree) ∧ Ints w2 (fun b => rs b = 4) a cap c.par)
  (t3 : Turned (fun _ => False) w2 w3) (hv : Sl w3 (fun b => w2.heap.size ≤ b) 3 1 v (ic c.par) c.par.length) (t3' : Turned (fun _ => False) w3 W3)
  (t4 : Turned (fun b => rs b = 3) W3 w4) (hs : Sl w4 (More (fun b => rs b = 3) W3) 55 2 v' (tvs ++ [v, .int .i64 c.tree]) (s.commits.length + 1)) :
  AdTo w SD rs d p D' { s with commits := s.commits ++ [c] } (w4.setCell ⟨p, 2, none⟩ v') := by
 obtain ⟨S1, g1, g2, g3, g4, g5⟩ := hw
 have hd1 : ∀ b, S1 b → rs b = 0 := fun b hb => by
  rcases g2 b hb with q | q
  ·exact hdis b q
  ·apply Classical.byContradiction
   intro z
   have := hbs b z
   omega
 have s2 := g5.size
 have s3 := t3.size
 have s3' := t3'.size
 have s4 := t4.size
 have r1 := g4.r1
 have hp2 := g4.bnd p (by omega)
 have T3 : Turned (fun _ => False) w2 W3 := t3.trans t3' fun _ _ q => q
 have T4 : Turned (fun b => rs b = 3) w2 w4 := T3.comp t4 fun i _ q => q.elim False.elim id
 have ts : Turned (· = p) w4 (w4.setCell ⟨p, 2, none⟩ v') := Turned.setCell (S := (· = p)) (p := ⟨p, 2, none⟩) rfl _
 have T5 : Turned (fun b => rs b = 3 ∨ b = p) w2 (w4.setCell ⟨p, 2, none⟩ v') := T4.comp ts fun i _ q => q
 have hsz : (w4.setCell ⟨p, 2, none⟩ v').heap.size = w4.heap.size := setCell_size _ _ _
 obtain ⟨rs', hrs⟩ : ∃ rs' : Nat → Nat, rs' = fun b => if b < w2.heap.size then rs b else if b < w3.heap.size then 4 else if b < W3.heap.size then 0 else if b < w4.heap.size then 3 else 0 := ⟨_, rfl⟩
 have r_old : ∀ b, b < w2.heap.size → rs' b = rs b := fun b hb => by rw [hrs]; simp only [if_pos hb]
 have r_cl : ∀ b, w2.heap.size ≤ b → b < w3.heap.size → rs' b = 4 := fun b h1 h2 => by rw [hrs]; simp only; rw [if_neg (by omega), if_pos h2]
 have r_new : ∀ b, W3.heap.size ≤ b → b < w4.heap.size → rs' b = 3 := fun b h1 h2 => by rw [hrs]; simp only; rw [if_neg (by omega), if_neg (by omega), if_neg (by omega), if_pos h2]
 have r_bnd : ∀ b, rs' b ≠ 0 → b < w4.heap.size := fun b hb => by
  rw [hrs] at hb; simp only at hb
  split at hb
  ·omega
  ·split at hb
   ·omega
   ·split at hb
    ·omega
    ·split at hb
     ·assumption
     ·exact absurd rfl hb
 have r_keep : ∀ b, rs b ≠ 0 → rs' b = rs b := fun b hb => r_old b (by have := g4.bnd b hb; omega)
 refine ⟨S1, rs', tv, v', g1.turned T5 fun b hb q => ?_, g2, fun b hb => by rw [hsz]; have := g3 b hb; omega, ⟨by rw [r_keep p (by omega), r1], ?_, ?_, ?_, fun b hb => by rw [hsz]; exact r_bnd b hb⟩, fun b hb => ?_, fun b hb => by rw [r_old b (g3 b hb)]; exact hd1 b hb, g5.comp T5 fun i hi q => ?_⟩
 ·have := hd1 b hb
  rcases q with q | q
  ·omega
  ·rw [q] at this; omega
 ·have h4 : w4.heap[p]? = w2.heap[p]? := T4.block p hp2 (by omega)
  have hb := h4.trans g4.blk
  have := Go.Mine.heap_setCell_same hb (o := 2) v'
  simpa [Blk] using this
 ·refine TreesAt.roles (g4.trees.keep T5 fun b hb z => ?_) fun b hb => r_keep b hb
  rcases z with z | z
  ·omega
  ·rw [z, r1] at hb; omega
 ·refine ⟨tvs ++ [v, .int .i64 c.tree], ?_, fun i u hi => ?_⟩
  ·have := (hs.turned ts fun b hb q => by
    rcases hb with hb | hb
    ·rw [q, r1] at hb; omega
    ·omega)
   rw [List.length_append]
   refine sl_widenB this fun b hb q => ?_
   rw [hsz] at hb
   rcases q with q | q
   ·rw [r_keep b (by omega)]; exact q
   ·exact r_new b q hb
  ·rw [List.getElem?_append] at hi
   have hlen : tvs.length = s.commits.length * 2 := hts.1
   split at hi
   ·rename_i q
    obtain ⟨a, cap, e1, e3, e2⟩ := htr i u hi
    refine ⟨a, cap, by rw [List.getElem?_append_left (by omega)]; exact e1, by rw [List.getElem?_append_left (by omega)]; exact e3, (e2.turned T5 fun b hb z => ?_).mono fun b hb => by rw [r_keep b (by omega)]; exact hb⟩
    rcases z with z | z
    ·omega
    ·rw [z, r1] at hb; omega
   ·rename_i q
    obtain ⟨a, cap, hva, he⟩ := sl_ic (sl_widenB hv (T := fun b => w2.heap.size ≤ b ∧ b < w3.heap.size) fun b h1 h2 => ⟨h2, h1⟩) hl
    have h0 : i - s.commits.length = 0 := by
     have := (List.getElem?_eq_some_iff.1 hi).1
     simpa using this
    rw [h0] at hi
    obtain rfl : c = u := by simpa using hi
    refine ⟨a, cap, by rw [List.getElem?_append_right (by omega), show i * 2 - tvs.length = 0 by omega, hva]; rfl, by rw [List.getElem?_append_right (by omega), show i * 2 + 1 - tvs.length = 1 by omega]; rfl, ((he.turned t3' fun _ _ z => z).turned (t4.comp ts fun i _ q => q) fun b hb z => ?_).mono fun b hb => r_cl b hb.1 hb.2⟩
    rcases z with z | z
    ·have := g4.bnd b (by omega); omega
    ·omega
 ·by_cases q : b < w2.heap.size
  ·rw [r_old b q] at hb
   exact .inl hb
  ·exact .inr (by omega)
 ·rcases q with q | q | q
  ·exact q.imp id fun q => by rw [q]; omega
  ·exact .inr (by omega)
  ·exact .inr (by rw [q]; omega)
end Go.Proofs.YtofcogekgcgjhaaGreatDoor
