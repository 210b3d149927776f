/- Packed. -/
import Derived.Test.YtofcogekgcgjhaaGreatDoorZzbm
set_option linter.unusedVariables false
set_option linter.unusedSimpArgs false
set_option maxRecDepth 100000
namespace Go.Proofs.YtofcogekgcgjhaaGreatDoor
open Go.RowKit Go.Mine Go.Mine.Ac
theorem FsTo.draw {w w1 : World} {S : Nat → Prop} {d : Nat} {D : Dk} (h : FsTo w S d D w1) : FsTo w S d D w1.drew := by
 obtain ⟨S1, a1, a2, a3, a4⟩ := h
 exact ⟨S1, a1.turned (Turned.drew (fun _ => False) _) fun _ _ z => z, a2, a3, a4.draw⟩
theorem writeX_ok {n : Nat} {D : Dk} (h : D.Ok) (hf : Few D n) (tmp text name : ByteArray) : (writeX D tmp text name).1.Ok ∧ Few (writeX D tmp text name).1 (n + 2) := by
 have := writeX_keeps (P := fun n d => Few d n ∧ d.Ok) (fun n d q => ⟨q.1.mono (Nat.le_succ _), q.2⟩) (fun n d s q => ⟨q.1.create s, q.2.createOk s⟩) (fun n d s t q => ⟨q.1.append s t, q.2.appendOk s t⟩) (fun n d s q => ⟨q.1.sync s, q.2.syncOk s⟩)
  (fun n d s t q => ⟨q.1.rename s t, q.2.renameOk s t⟩) ⟨hf, h⟩ tmp text name
 exact ⟨this.2, this.1⟩
set_option maxHeartbeats 8000000 in
theorem xlay_e3a {w : World} {S SL SG SR : Nat → Prop} {rx : Nat → Nat} {d p : Nat} {lv gv : Value} {D : Dk} {x : Ix} {la ga ra : Option Addr} {lc gc rc : Nat} {links : List Ch.Ln} {graphs : List Gr} {gvs : List Value} {g : Gr} (h : LayIn w S rx d p lv gv D x SL SG SR la lc links ga gc graphs gvs ra rc g) (he : (encE g).2 = 0) (he2 : (encL (linkX x links g)).2 = 0) {D1 : Dk} {k : Nat} (h1 : writeX D graphT (encE g).1 (Ch.nameS (Ch.nxt x.links)) = (D1, k)) (hk : k ≠ 0) :
  Calls Tryz.prog 62 #[pt p, .slice la links.length lc, .slice ga graphs.length gc, grv ra rc g] w (LayPost w S SR rx d p (layX D x links graphs g)) := by
 rw [layX_e3 he he2 (layTail_1 h1 hk) hk]
 obtain ⟨Z, hZ⟩ : ∃ Z, Z = LayPost w S SR rx d p (failX D1 (Ch.nxt x.links), x, k) := ⟨_, rfl⟩
 have HZ : Hid (Z = LayPost w S SR rx d p (failX D1 (Ch.nxt x.links), x, k)) := hZ
 rw [← hZ]
 obtain ⟨V, hV⟩ : ∃ V, V = w.alloc (.cells #[.int .i64 g.base, .int .i64 g.h, .int .i64 g.p, .int .i64 g.m, .int .u32 (g.seed : Nat), .slice ra g.rows.length rc] 123) := ⟨_, rfl⟩
 have HVV : Hid (V = w.alloc (.cells #[.int .i64 g.base, .int .i64 g.h, .int .i64 g.p, .int .i64 g.m, .int .u32 (g.seed : Nat), .slice ra g.rows.length rc] 123)) := hV
 have tV : Turned (fun _ => False) w V := by rw [hV]; exact Turned.alloc _ _ _
 have xV : V.heap[w.heap.size]? = some (.cells #[.int .i64 g.base, .int .i64 g.h, .int .i64 g.p, .int .i64 g.m, .int .u32 (g.seed : Nat), .slice ra g.rows.length rc] 123) := by rw [hV]; exact heap_alloc_new _ _
 have hsz := encE_size g
 have HEN : Hid (Calls Tryz.prog 132 #[.agg #[.int .i64 g.base, .int .i64 g.h, .int .i64 g.p, .int .i64 g.m, .int .u32 (g.seed : Nat), .slice ra g.rows.length rc]] V fun e w' => e = .returned (.tuple #[.string (encE g).1, .int .i64 0]) ∧ Turned (fun _ => False) V w') := by
  have := encode_any SR ra rc g V (h.rows.turned tV fun _ _ z => z) h.gok
  rw [encG_eq, he] at this
  exact this
 have c0 : V.cell? ⟨w.heap.size, 0, none⟩ = some (.int .i64 g.base) := cell_of xV 0 _ rfl
 have c1 : V.cell? ⟨w.heap.size, 1, none⟩ = some (.int .i64 g.h) := cell_of xV 1 _ rfl
 have c2 : V.cell? ⟨w.heap.size, 2, none⟩ = some (.int .i64 g.p) := cell_of xV 2 _ rfl
 have c3 : V.cell? ⟨w.heap.size, 3, none⟩ = some (.int .i64 g.m) := cell_of xV 3 _ rfl
 have c4 : V.cell? ⟨w.heap.size, 4, none⟩ = some (.int .u32 (g.seed : Nat)) := cell_of xV 4 _ rfl
 have c5 : V.cell? ⟨w.heap.size, 5, none⟩ = some (.slice ra g.rows.length rc) := cell_of xV 5 _ rfl
 have hlt := lt_of_block xV
 obtain ⟨nx, hnx⟩ : ∃ nx, nx = Ch.nxt x.links := ⟨_, rfl⟩
 obtain ⟨T, hT⟩ : ∃ T, T = (encE g).1 := ⟨_, rfl⟩
 obtain ⟨sm, hsm⟩ : ∃ sm, sm = Crc.sum (nums T) := ⟨_, rfl⟩
 have hlk : linkX x links g = links ++ [(nx, (g.rows.length : Int), sm)] := by unfold linkX; rw [← hnx, ← hT, ← hsm]
 rw [← hT] at HEN
 obtain ⟨xa, xc, hlv, hln⟩ := Ch.sl_lnIs h.ix.links (LnOk.of h.ixok)
 subst hlv
 have p1 : w.cell? ⟨p, 1, none⟩ = some (.slice xa x.links.length xc) := cell_of h.ix.blk 1 _ rfl
 have p1V := cell_at p1 tV id
 have HPX : Hid (∀ W, Turned (fun _ => False) V W → W.cell? ⟨p, 1, none⟩ = some (.slice xa x.links.length xc) ∧ p < W.heap.size) := fun W t => ⟨cell_at p1V t id, Nat.lt_of_lt_of_le (lt_of_block h.ix.blk) (Nat.le_trans tV.size t.size)⟩
 have HNX : Hid (∀ W, Turned (fun _ => False) V W → Calls Tryz.prog 133 #[.slice xa x.links.length xc] W fun e w' => e = .returned (.int .i64 nx) ∧ Turned (fun _ => False) V w') := fun W t => by
  rw [hnx]
  exact (Ch.next_any xa xc x.links W ((hln.turned tV).turned t) (by have := h.ixok.many; omega) h.low).mono fun e w' ⟨a, b⟩ => ⟨a, t.trans b fun _ _ z => z⟩
 obtain ⟨nl, hnl⟩ : ∃ nl, nl = links.length := ⟨_, rfl⟩
 have HCL : Hid (∀ W, Turned (fun _ => False) V W → Calls Tryz.prog 134 #[.slice la nl lc] W fun e w' => ∃ a c, e = .returned (.slice a nl c) ∧ Sl w' (fun b => V.heap.size ≤ b) 120 3 (.slice a nl c) (Ch.lcells links) nl ∧ Turned (fun _ => False) V w' ∧ Turned (fun _ => False) W w') := fun W t => by
  rw [hnl]
  have hl := (h.ls.turned tV fun _ _ z => z).turned t fun _ _ z => z
  refine (clone_links W (fun w' t' => (hl.turned t' fun _ _ z => z).src Tryz.underlying113 (lcells_one _)) (sl_none hl) (by have := h.lmany; omega)).mono fun e w' ⟨v, a, b, c⟩ => ?_
  obtain ⟨ca, cc, rfl, -, -⟩ := b.value
  exact ⟨ca, cc, a, b.widen fun x hx => Nat.le_trans t.size hx, t.trans c fun _ _ z => z, c⟩
 have HSM : Hid (∀ W b, Turned (fun _ => False) V W → W.heap[b]? = some (.cells #[.string T] 9) → Calls Tryz.prog 124 #[.slice (some ⟨b, 0, none⟩) 1 1] W fun e w' => e = .returned (.int .u32 (sm : Nat)) ∧ Turned (fun _ => False) V w' ∧ Turned (fun _ => False) W w') := fun W b t hb => by
  rw [hsm]
  exact (sum_one b 0 1 T W (cell_of hb 0 _ rfl) (lt_of_block hb) (by rw [hT]; omega)).mono fun e w' ⟨a, q⟩ => ⟨a, t.trans q fun _ _ z => z, q⟩
 have TV : Hid (Turned (fun _ => False) w V ∧ w.heap.size < V.heap.size) := ⟨tV, hlt⟩
 have HXV : Hid (∀ W (Q : Nat → Prop), Turned Q V W → ¬ Q w.heap.size → W.cell? ⟨w.heap.size, 5, none⟩ = some (.slice ra g.rows.length rc) ∧ w.heap.size < W.heap.size) := fun W Q t z => ⟨cell_at c5 t z, Nat.lt_of_lt_of_le hlt t.size⟩
 have HH : Hid _ := hidS h
 obtain ⟨K, hK⟩ : ∃ K, K = g.rows.length := ⟨_, rfl⟩
 rw [← hK] at c5 HXV HEN hlk HVV
 have HLK : Hid (linkX x links g = links ++ [(nx, (K : Int), sm)] ∧ nl = links.length ∧ K = g.rows.length) := ⟨hlk, hnl, hK⟩
 have m1 : Hid (nl + 1 ≤ maxLen ∧ (nl + 1) * 24 ≤ 140737488355328) := hidS (by have := h.lmany; simp only [maxLen]; omega)
 rw [← hnl]
 dsimp only [grv]
 rw [← hK]
 have hnb := Ch.nxt_bound x.links h.low
 have HCE : Hid (∀ (W : World) (S' : Nat → Prop) (a : Option Addr) (c : Nat), Sl W S' 120 3 (.slice a (nl + 1) c) (Ch.lcells links ++ [.int .i64 nx, .int .i64 (K : Int), .int .u32 (sm : Nat)]) (nl + 1) → Calls Tryz.prog 135 #[.slice a (nl + 1) c] W fun e w' => e = .returned (.tuple #[.string (encL (linkX x links g)).1, .int .i64 ((encL (linkX x links g)).2 : Nat)]) ∧ Turned (fun _ => False) W w') := fun W S' a c hs => by
  have hll : (linkX x links g).length = nl + 1 := by rw [hlk, hnl]; simp
  have hcc : Ch.lcells (linkX x links g) = Ch.lcells links ++ [.int .i64 nx, .int .i64 (K : Int), .int .u32 (sm : Nat)] := by rw [hlk, lcells_app]; rfl
  rw [← hcc, ← hll] at hs
  obtain ⟨a', c', hv, hl⟩ := Ch.sl_lnIs hs fun y hy => by
   rw [hlk] at hy
   rcases List.mem_append.1 hy with q | q
   ·exact h.lok y q
   ·rw [List.mem_singleton] at q
    subst q
    have := h.gfew
    refine ⟨⟨by simp only; omega, by simp only; omega⟩, ⟨by simp only; omega, by simp only; omega⟩, ?_⟩
    simp only
    rw [hsm]
    exact crcsum_lt _
  simp only [Value.slice.injEq] at hv
  obtain ⟨rfl, -, rfl⟩ := hv
  have := Ch.encode_any a c (linkX x links g) W hl
  rw [encV_eq, hll] at this
  exact this
 obtain ⟨k2, hk2⟩ : ∃ k2, k2 = (encL (linkX x links g)).2 := ⟨_, rfl⟩
 rw [← hk2] at HCE he2
 subst he2
 obtain ⟨text, htext⟩ : ∃ text, text = (encL (linkX x links g)).1 := ⟨_, rfl⟩
 rw [← htext] at HCE
 have hpS : ¬ S p := fun z => by have := h.dis p z; rw [h.ix.r1] at this; simp at this
 have HPC : Hid (∀ w6 W, Turned (fun _ => False) w w6 → Turned S w6 W → W.cell? ⟨p, 0, none⟩ = some (pt d) ∧ p < W.heap.size) := fun w6 W t t2 => by
  have := boxed (boxed h.ix.blk t id) t2 hpS
  exact ⟨cell_of this 0 _ rfl, lt_of_block this⟩
 have hI64 : I64 nx := ⟨by omega, by omega⟩
 have HTB : Hid (∀ w6 W, Turned (fun _ => False) w w6 → Turned S w6 W → Ch.Tab W ∧ Ch.Errs W) := fun w6 W t t2 => h.tab W (t.comp t2 fun i _ z => z.elim False.elim .inl)
 have HNM : Hid (∀ w6 W D', Turned (fun _ => False) w w6 → FsTo w6 S d D' W → Calls Tryz.prog 128 #[.int .i64 nx] W fun e w' => e = .returned (.string (Ch.nameS nx)) ∧ FsTo w6 S d D' w') := fun w6 W D' t f => by
  obtain ⟨S1, a1, a2, a3, a4⟩ := f
  exact (Ch.name_any nx hI64 W (HTB.out w6 W t a4).1).mono fun e w' ⟨x1, x2⟩ => ⟨x1, S1, a1.turned x2 fun _ _ z => z, a2, fun b hb => Nat.lt_of_lt_of_le (a3 b hb) x2.size, a4.trans x2 fun _ _ z => z.elim⟩
 have HF0 : Hid (∀ w6, Turned (fun _ => False) w w6 → FsTo w6 S d D w6) := fun w6 t => FsTo.stay (h.disk.turned t fun _ _ z => z) fun b hb => Nat.lt_of_lt_of_le (h.sb b hb) t.size
 have HBK : Hid (∀ w6 W, Turned (fun _ => False) w w6 → Turned S w6 W → W.heap[p]? = some (.cells #[pt d, .slice xa x.links.length xc, gv] 116)) := fun w6 W t t2 => boxed (boxed h.ix.blk t id) t2 hpS
 have HWR : Hid (∀ (D1 : Dk) (tmp tx name : ByteArray) (w6 W : World), Turned (fun _ => False) w w6 → D1.Ok → Few D1 900000000 → tx.size ≤ 1099511627776 → FsTo w6 S d D1 W → Calls Tryz.prog 136 #[pt p, .string tmp, .string tx, .string name] W fun e w' => e = .returned (.int .i64 ((writeX D1 tmp tx name).2 : Nat)) ∧ FsTo w6 S d (writeX D1 tmp tx name).1 w') := fun D1 tmp tx name w6 W t o f z ⟨S1, a1, a2, a3, a4⟩ => by
  have hp1 : ¬ S1 p := fun q => by
   rcases a2 p q with y | y
   ·exact hpS y
   ·have := lt_of_block h.ix.blk; have := t.size; omega
  exact (xwrite_any a1 o f (HBK.out w6 W t a4) hp1 a3 tmp tx name z).mono fun e w' ⟨x1, x2⟩ => ⟨x1, x2.next a2 a4⟩
 have HRM : Hid (∀ (D1 : Dk) (nm : ByteArray) (w6 W : World), Turned (fun _ => False) w w6 → D1.Ok → Few D1 900000000 → FsTo w6 S d D1 W → Calls Tryz.prog 38 #[pt d, .string nm] W fun e w' => (∃ k : Nat, e = .returned (.int .i64 (k : Nat))) ∧ FsTo w6 S d (D1.remove nm).1 w') := fun D1 nm w6 W t o f ⟨S1, a1, a2, a3, a4⟩ =>
  (fsRemove a1 o (by have := f.1; omega) nm).mono fun e w' ⟨x1, x2⟩ => ⟨⟨_, x1⟩, x2.next a2 a4⟩
 have HTS : Hid (T.size ≤ 1099511627776 ∧ text.size ≤ 1099511627776) := ⟨by rw [hT]; omega, by rw [htext]; have := encL_size (linkX x links g); omega⟩
 have HOK : Hid (D.Ok ∧ Few D 800000000) := ⟨h.ok, h.few⟩
 rw [← hT, ← hnx] at h1
 rw [← hnx] at HZ
 have HWX : Hid (writeX D ⟨#[103, 114, 97, 112, 104, 46, 116, 109, 112]⟩ T (Ch.nameS nx) = (D1, k)) := h1
 have HE : Hid (D1.Ok ∧ Few D1 800000002) := by
  have := writeX_ok h.ok h.few graphT T (Ch.nameS nx)
  rw [h1] at this
  exact this
 have HFIN : Hid (∀ w6 W, Turned (fun _ => False) w w6 → FsTo w6 S d (failX D1 nx) W → LayPost w S SR rx d p (failX D1 nx, x, k) (.returned (.int .i64 (k : Nat))) W) := fun w6 W t ⟨S1, a1, a2, a3, a4⟩ =>
  ⟨rfl, S1, rx, .slice xa x.links.length xc, gv, a1, fun b hb => (a2 b hb).imp id fun z => Nat.le_trans t.size z, a3, (h.ix.turned t fun _ _ z => z).turned a4 fun b hb z => hb (h.dis b z), fun b hb => .inl hb, fun b hb => by
   rcases a2 b hb with z | z
   ·exact h.dis b z
   ·apply Classical.byContradiction
    intro y
    have := h.ix.bnd b y
    have := t.size
    omega, t.comp a4 fun i _ z => z.elim False.elim .inl⟩
 have e1 : ((k : Int) == 0) = false := by simp; omega
 have e2 : ((k : Int) != 0) = true := by simp; omega
 clear htext hpS hI64 h1 hk
 clear hnb hk2
 clear hZ hV tV xV h he hsz hnx hT hsm hlk hln p1 p1V hnl hK
 go_enter Tryz.func62, Tryz.ntmps62
 go_wp2_with fail
 rw [← HVV.out]
 go_wp2_with (first | (go_at_call 132; (with_reducible refine HEN.out.mono ?_); rintro e w1 ⟨rfl, q1⟩; obtain ⟨p1, p2⟩ := HPX.out w1 q1; replace q1 : Hid _ := hidS q1) | (go_at_call 133; (with_reducible refine (HNX.out _ q1.out).mono ?_); rintro e w2 ⟨rfl, q2⟩; replace q2 : Hid _ := hidS q2))
 have q0 : ¬ V.heap.size ≤ w.heap.size := by have := TV.out.2; omega
 have HXE : Hid (∀ W, Turned (fun _ => False) V W → W.cell? ⟨w.heap.size, 5, none⟩ = some (.slice ra K rc)) := fun W t => (HXV.out W _ t id).1
 have HXF : Hid (∀ W, Turned (fun b => V.heap.size ≤ b) V W → W.cell? ⟨w.heap.size, 5, none⟩ = some (.slice ra K rc)) := fun W t => (HXV.out W _ t (by have := TV.out.2; omega)).1
 clear c0 c1 c2 c3 c4 c5 p1 p2
 go_region_held3 (fun W => W.cell? ⟨w.heap.size, 5, none⟩ = some (.slice ra K rc))
  (first | (exact HXE.out _ q2.out.draw) | (exact HXE.out _ ((q2.out.new _).draw)) | (exact HXE.out _ (by assumption)) | (exact HXF.out _ (by assumption)) | (exact HXE.out _ ((by assumption : Turned (fun _ => False) V _).new _)) | go_keep)
  (first
   | (go_at_call 134; (with_reducible refine (HCL.out w2.drew q2.out.draw).mono ?_); rintro e3 w3 ⟨a3, c3, rfl, hs3, ht3, hu3⟩; replace hs3 : Hid _ := hidS hs3; clear hu3)
   | (go_at_call 134; (with_reducible refine (HCL.out (w2.alloc (.cells #[.string T] 9)).drew ((q2.out.new _).draw)).mono ?_); rintro e3 w3 ⟨a3, c3, rfl, hs3, ht3, hu3⟩; have kb3 := boxed (w := (w2.alloc (.cells #[.string T] 9)).drew) (Go.Mine.heap_alloc_new w2 _) hu3 id; replace hs3 : Hid _ := hidS hs3; clear hu3)
   | (go_at_call 134; (with_reducible refine (HCL.out w4 ht4).mono ?_); rintro e3 w3 ⟨a3, c3, rfl, hs3, ht3, hu3⟩; replace hs3 : Hid _ := hidS hs3; clear hu3)
   | (go_at_call 124; (with_reducible refine (HSM.out (w3.alloc (.cells #[.string T] 9)) w3.heap.size (ht3.new _) (Go.Mine.heap_alloc_new w3 _)).mono ?_); rintro e4 w4 ⟨rfl, ht4, hu4⟩; have hs4 : Hid _ := hidS (hs3.out.turned ((Turned.alloc (fun _ => False) w3 _).trans hu4 fun _ _ z => z) fun _ _ z => z); clear hu4)
   | (go_at_call 124; (with_reducible refine (HSM.out w3 w2.heap.size ht3 kb3).mono ?_); rintro e4 w4 ⟨rfl, ht4, hu4⟩; have hs4 : Hid _ := hidS (hs3.out.turned hu4 fun _ _ z => z); clear hu4)
   | (go_at_call 124; (with_reducible refine (HSM.out (w2.alloc (.cells #[.string T] 9)).drew w2.heap.size ((q2.out.new _).draw) (Go.Mine.heap_alloc_new w2 _)).mono ?_); rintro e4 w4 ⟨rfl, ht4, hu4⟩; clear hu4)
   | (refine step_append (by rfl) _ _ 113 113 (by rfl) (hs4.out.turned (T := fun _ => False) (Turned.alloc _ w4 (.cells #[.int .i64 nx, .int .i64 (K : Int), .int .u32 (sm : Nat)] 120)) fun _ _ z => z) Tryz.underlying113 infoC120 rfl (by decide) (by rfl) (.slice (some ⟨w4.heap.size, 0, none⟩) 1 1) (by rfl) (src120 (.int .i64 nx) (.int .i64 (K : Int)) (.int .u32 (sm : Nat)) (by simp [Value.oneCell']) w4).1 m1.out.1 m1.out.2 ?_; intro v5 w5 hs5 ht5; obtain ⟨a5, c5', rfl, -, -⟩ := hs5.value; have T5 : Turned (fun b => V.heap.size ≤ b) V w5 := (ht4.new _).comp ht5 (fun i _ z => z.elim False.elim id); have Y5 : Hid _ := hidS hs5; clear hs5 ht5)
   | (refine step_append (by rfl) _ _ 113 113 (by rfl) (hs3.out.turned (T := fun _ => False) (Turned.alloc _ w3 (.cells #[.int .i64 nx, .int .i64 (K : Int), .int .u32 (sm : Nat)] 120)) fun _ _ z => z) Tryz.underlying113 infoC120 rfl (by decide) (by rfl) (.slice (some ⟨w3.heap.size, 0, none⟩) 1 1) (by rfl) (src120 (.int .i64 nx) (.int .i64 (K : Int)) (.int .u32 (sm : Nat)) (by simp [Value.oneCell']) w3).1 m1.out.1 m1.out.2 ?_; intro v5 w5 hs5 ht5; obtain ⟨a5, c5', rfl, -, -⟩ := hs5.value; have T5 : Turned (fun b => V.heap.size ≤ b) V w5 := (ht3.new _).comp ht5 (fun i _ z => z.elim False.elim id); have Y5 : Hid _ := hidS hs5; clear hs5 ht5))
 all_goals
  go_wp2_with (first
   | (go_at_call 135; (with_reducible refine (HCE.out w5 _ _ _ Y5.out).mono ?_); rintro e6 w6 ⟨rfl, ht6⟩; have t6 : Turned (fun _ => False) w w6 := (TV.out.1.comp (T5.trans ht6 fun _ _ z => z.elim) fun i hi z => z.elim id fun z => by have := TV.out.2; omega); have f6 : Hid _ := hidS (HF0.out w6 t6); clear ht6 T5)
   | (go_at_call 128; (with_reducible refine (HNM.out w6 w6 D t6 f6.out).mono ?_); rintro e7 w7 ⟨rfl, f7⟩; replace f7 : Hid _ := hidS f7)
   | (go_at_call 136; (with_reducible refine (HWR.out D ⟨#[103, 114, 97, 112, 104, 46, 116, 109, 112]⟩ T (Ch.nameS nx) w6 w7 t6 HOK.out.1 (HOK.out.2.mono (by omega)) HTS.out.1 f7.out).mono ?_); rintro ea wa ⟨rfl, fa⟩; rw [HWX.out] at fa ⊢; obtain ⟨pp0, pp1⟩ := HPC.out w6 wa t6 (by obtain ⟨_, _, _, _, t⟩ := fa; exact t); replace fa : Hid _ := hidS fa))
  go_wp2_with (first
   | (go_at_call 38; (with_reducible refine (HRM.out D1 ⟨#[103, 114, 97, 112, 104, 46, 116, 109, 112]⟩ w6 _ t6 HE.out.1 (HE.out.2.mono (by omega)) fa.out).mono ?_); rintro e8 w8 ⟨⟨r8, rfl⟩, f8⟩; obtain ⟨pp0, pp1⟩ := HPC.out w6 w8 t6 (by obtain ⟨_, _, _, _, t⟩ := f8; exact t); replace f8 : Hid _ := hidS f8)
   | (go_at_call 38; (with_reducible refine (HRM.out _ ⟨#[99, 104, 97, 105, 110, 46, 116, 109, 112]⟩ w6 _ t6 (HE.out.1.removeOk ⟨#[103, 114, 97, 112, 104, 46, 116, 109, 112]⟩) ((HE.out.2.remove ⟨#[103, 114, 97, 112, 104, 46, 116, 109, 112]⟩).mono (by omega)) f8.out).mono ?_); rintro e9 w9 ⟨⟨r9, rfl⟩, f9⟩; obtain ⟨pp0, pp1⟩ := HPC.out w6 w9 t6 (by obtain ⟨_, _, _, _, t⟩ := f9; exact t); replace f9 : Hid _ := hidS f9))
  go_region_held3 (fun W => W.cell? ⟨p, 0, none⟩ = some (pt d))
   (first | (exact (HPC.out w6 _ t6 (by obtain ⟨_, _, _, _, t⟩ := f9.out; exact t.draw)).1) | (exact (HPC.out w6 _ t6 (by obtain ⟨_, _, _, _, t⟩ := fA; exact t)).1) | (exact (HPC.out w6 _ t6 (by obtain ⟨_, _, _, _, t⟩ := fB; exact t)).1) | go_keep)
   (first
    | (go_at_call 128; (with_reducible refine (HNM.out w6 _ _ t6 (FsTo.draw f9.out)).mono ?_); rintro eA wA ⟨rfl, fA⟩)
    | (go_at_call 38; (with_reducible refine (HRM.out _ (Ch.nameS nx) w6 _ t6 ((HE.out.1.removeOk ⟨#[103, 114, 97, 112, 104, 46, 116, 109, 112]⟩).removeOk ⟨#[99, 104, 97, 105, 110, 46, 116, 109, 112]⟩) (((HE.out.2.remove ⟨#[103, 114, 97, 112, 104, 46, 116, 109, 112]⟩).remove ⟨#[99, 104, 97, 105, 110, 46, 116, 109, 112]⟩).mono (by omega)) fA).mono ?_); rintro eB wB ⟨⟨rB, rfl⟩, fB⟩))
  go_wp2
  rw [HZ.out]
  exact HFIN.out w6 wB t6 fB
set_option maxHeartbeats 8000000 in
theorem xlay_e3c {w : World} {S SL SG SR : Nat → Prop} {rx : Nat → Nat} {d p : Nat} {lv gv : Value} {D : Dk} {x : Ix} {la ga ra : Option Addr} {lc gc rc : Nat} {links : List Ch.Ln} {graphs : List Gr} {gvs : List Value} {g : Gr} (h : LayIn w S rx d p lv gv D x SL SG SR la lc links ga gc graphs gvs ra rc g) (he : (encE g).2 = 0) (he2 : (encL (linkX x links g)).2 = 0) {D1 D2 D3 : Dk} {k : Nat} (h1 : writeX D graphT (encE g).1 (Ch.nameS (Ch.nxt x.links)) = (D1, 0)) (h2 : writeX D1 chainT (encL (linkX x links g)).1 chainB = (D2, 0)) (h3 : D2.syncNames = (D3, k)) (hk : k ≠ 0) :
  Calls Tryz.prog 62 #[pt p, .slice la links.length lc, .slice ga graphs.length gc, grv ra rc g] w (LayPost w S SR rx d p (layX D x links graphs g)) := by
 rw [layX_e3 he he2 ((layTail_3 h1 h2).trans h3) hk]
 obtain ⟨Z, hZ⟩ : ∃ Z, Z = LayPost w S SR rx d p (failX D3 (Ch.nxt x.links), x, k) := ⟨_, rfl⟩
 have HZ : Hid (Z = LayPost w S SR rx d p (failX D3 (Ch.nxt x.links), x, k)) := hZ
 rw [← hZ]
 obtain ⟨V, hV⟩ : ∃ V, V = w.alloc (.cells #[.int .i64 g.base, .int .i64 g.h, .int .i64 g.p, .int .i64 g.m, .int .u32 (g.seed : Nat), .slice ra g.rows.length rc] 123) := ⟨_, rfl⟩
 have HVV : Hid (V = w.alloc (.cells #[.int .i64 g.base, .int .i64 g.h, .int .i64 g.p, .int .i64 g.m, .int .u32 (g.seed : Nat), .slice ra g.rows.length rc] 123)) := hV
 have tV : Turned (fun _ => False) w V := by rw [hV]; exact Turned.alloc _ _ _
 have xV : V.heap[w.heap.size]? = some (.cells #[.int .i64 g.base, .int .i64 g.h, .int .i64 g.p, .int .i64 g.m, .int .u32 (g.seed : Nat), .slice ra g.rows.length rc] 123) := by rw [hV]; exact heap_alloc_new _ _
 have hsz := encE_size g
 have HEN : Hid (Calls Tryz.prog 132 #[.agg #[.int .i64 g.base, .int .i64 g.h, .int .i64 g.p, .int .i64 g.m, .int .u32 (g.seed : Nat), .slice ra g.rows.length rc]] V fun e w' => e = .returned (.tuple #[.string (encE g).1, .int .i64 0]) ∧ Turned (fun _ => False) V w') := by
  have := encode_any SR ra rc g V (h.rows.turned tV fun _ _ z => z) h.gok
  rw [encG_eq, he] at this
  exact this
 have c0 : V.cell? ⟨w.heap.size, 0, none⟩ = some (.int .i64 g.base) := cell_of xV 0 _ rfl
 have c1 : V.cell? ⟨w.heap.size, 1, none⟩ = some (.int .i64 g.h) := cell_of xV 1 _ rfl
 have c2 : V.cell? ⟨w.heap.size, 2, none⟩ = some (.int .i64 g.p) := cell_of xV 2 _ rfl
 have c3 : V.cell? ⟨w.heap.size, 3, none⟩ = some (.int .i64 g.m) := cell_of xV 3 _ rfl
 have c4 : V.cell? ⟨w.heap.size, 4, none⟩ = some (.int .u32 (g.seed : Nat)) := cell_of xV 4 _ rfl
 have c5 : V.cell? ⟨w.heap.size, 5, none⟩ = some (.slice ra g.rows.length rc) := cell_of xV 5 _ rfl
 have hlt := lt_of_block xV
 obtain ⟨nx, hnx⟩ : ∃ nx, nx = Ch.nxt x.links := ⟨_, rfl⟩
 obtain ⟨T, hT⟩ : ∃ T, T = (encE g).1 := ⟨_, rfl⟩
 obtain ⟨sm, hsm⟩ : ∃ sm, sm = Crc.sum (nums T) := ⟨_, rfl⟩
 have hlk : linkX x links g = links ++ [(nx, (g.rows.length : Int), sm)] := by unfold linkX; rw [← hnx, ← hT, ← hsm]
 rw [← hT] at HEN
 obtain ⟨xa, xc, hlv, hln⟩ := Ch.sl_lnIs h.ix.links (LnOk.of h.ixok)
 subst hlv
 have p1 : w.cell? ⟨p, 1, none⟩ = some (.slice xa x.links.length xc) := cell_of h.ix.blk 1 _ rfl
 have p1V := cell_at p1 tV id
 have HPX : Hid (∀ W, Turned (fun _ => False) V W → W.cell? ⟨p, 1, none⟩ = some (.slice xa x.links.length xc) ∧ p < W.heap.size) := fun W t => ⟨cell_at p1V t id, Nat.lt_of_lt_of_le (lt_of_block h.ix.blk) (Nat.le_trans tV.size t.size)⟩
 have HNX : Hid (∀ W, Turned (fun _ => False) V W → Calls Tryz.prog 133 #[.slice xa x.links.length xc] W fun e w' => e = .returned (.int .i64 nx) ∧ Turned (fun _ => False) V w') := fun W t => by
  rw [hnx]
  exact (Ch.next_any xa xc x.links W ((hln.turned tV).turned t) (by have := h.ixok.many; omega) h.low).mono fun e w' ⟨a, b⟩ => ⟨a, t.trans b fun _ _ z => z⟩
 obtain ⟨nl, hnl⟩ : ∃ nl, nl = links.length := ⟨_, rfl⟩
 have HCL : Hid (∀ W, Turned (fun _ => False) V W → Calls Tryz.prog 134 #[.slice la nl lc] W fun e w' => ∃ a c, e = .returned (.slice a nl c) ∧ Sl w' (fun b => V.heap.size ≤ b) 120 3 (.slice a nl c) (Ch.lcells links) nl ∧ Turned (fun _ => False) V w' ∧ Turned (fun _ => False) W w') := fun W t => by
  rw [hnl]
  have hl := (h.ls.turned tV fun _ _ z => z).turned t fun _ _ z => z
  refine (clone_links W (fun w' t' => (hl.turned t' fun _ _ z => z).src Tryz.underlying113 (lcells_one _)) (sl_none hl) (by have := h.lmany; omega)).mono fun e w' ⟨v, a, b, c⟩ => ?_
  obtain ⟨ca, cc, rfl, -, -⟩ := b.value
  exact ⟨ca, cc, a, b.widen fun x hx => Nat.le_trans t.size hx, t.trans c fun _ _ z => z, c⟩
 have HSM : Hid (∀ W b, Turned (fun _ => False) V W → W.heap[b]? = some (.cells #[.string T] 9) → Calls Tryz.prog 124 #[.slice (some ⟨b, 0, none⟩) 1 1] W fun e w' => e = .returned (.int .u32 (sm : Nat)) ∧ Turned (fun _ => False) V w' ∧ Turned (fun _ => False) W w') := fun W b t hb => by
  rw [hsm]
  exact (sum_one b 0 1 T W (cell_of hb 0 _ rfl) (lt_of_block hb) (by rw [hT]; omega)).mono fun e w' ⟨a, q⟩ => ⟨a, t.trans q fun _ _ z => z, q⟩
 have TV : Hid (Turned (fun _ => False) w V ∧ w.heap.size < V.heap.size) := ⟨tV, hlt⟩
 have HXV : Hid (∀ W (Q : Nat → Prop), Turned Q V W → ¬ Q w.heap.size → W.cell? ⟨w.heap.size, 5, none⟩ = some (.slice ra g.rows.length rc) ∧ w.heap.size < W.heap.size) := fun W Q t z => ⟨cell_at c5 t z, Nat.lt_of_lt_of_le hlt t.size⟩
 have HH : Hid _ := hidS h
 obtain ⟨K, hK⟩ : ∃ K, K = g.rows.length := ⟨_, rfl⟩
 rw [← hK] at c5 HXV HEN hlk HVV
 have HLK : Hid (linkX x links g = links ++ [(nx, (K : Int), sm)] ∧ nl = links.length ∧ K = g.rows.length) := ⟨hlk, hnl, hK⟩
 have m1 : Hid (nl + 1 ≤ maxLen ∧ (nl + 1) * 24 ≤ 140737488355328) := hidS (by have := h.lmany; simp only [maxLen]; omega)
 rw [← hnl]
 dsimp only [grv]
 rw [← hK]
 have hnb := Ch.nxt_bound x.links h.low
 have HCE : Hid (∀ (W : World) (S' : Nat → Prop) (a : Option Addr) (c : Nat), Sl W S' 120 3 (.slice a (nl + 1) c) (Ch.lcells links ++ [.int .i64 nx, .int .i64 (K : Int), .int .u32 (sm : Nat)]) (nl + 1) → Calls Tryz.prog 135 #[.slice a (nl + 1) c] W fun e w' => e = .returned (.tuple #[.string (encL (linkX x links g)).1, .int .i64 ((encL (linkX x links g)).2 : Nat)]) ∧ Turned (fun _ => False) W w') := fun W S' a c hs => by
  have hll : (linkX x links g).length = nl + 1 := by rw [hlk, hnl]; simp
  have hcc : Ch.lcells (linkX x links g) = Ch.lcells links ++ [.int .i64 nx, .int .i64 (K : Int), .int .u32 (sm : Nat)] := by rw [hlk, lcells_app]; rfl
  rw [← hcc, ← hll] at hs
  obtain ⟨a', c', hv, hl⟩ := Ch.sl_lnIs hs fun y hy => by
   rw [hlk] at hy
   rcases List.mem_append.1 hy with q | q
   ·exact h.lok y q
   ·rw [List.mem_singleton] at q
    subst q
    have := h.gfew
    refine ⟨⟨by simp only; omega, by simp only; omega⟩, ⟨by simp only; omega, by simp only; omega⟩, ?_⟩
    simp only
    rw [hsm]
    exact crcsum_lt _
  simp only [Value.slice.injEq] at hv
  obtain ⟨rfl, -, rfl⟩ := hv
  have := Ch.encode_any a c (linkX x links g) W hl
  rw [encV_eq, hll] at this
  exact this
 obtain ⟨k2, hk2⟩ : ∃ k2, k2 = (encL (linkX x links g)).2 := ⟨_, rfl⟩
 rw [← hk2] at HCE he2
 subst he2
 obtain ⟨text, htext⟩ : ∃ text, text = (encL (linkX x links g)).1 := ⟨_, rfl⟩
 rw [← htext] at HCE
 have hpS : ¬ S p := fun z => by have := h.dis p z; rw [h.ix.r1] at this; simp at this
 have HPC : Hid (∀ w6 W, Turned (fun _ => False) w w6 → Turned S w6 W → W.cell? ⟨p, 0, none⟩ = some (pt d) ∧ p < W.heap.size) := fun w6 W t t2 => by
  have := boxed (boxed h.ix.blk t id) t2 hpS
  exact ⟨cell_of this 0 _ rfl, lt_of_block this⟩
 have hI64 : I64 nx := ⟨by omega, by omega⟩
 have HTB : Hid (∀ w6 W, Turned (fun _ => False) w w6 → Turned S w6 W → Ch.Tab W ∧ Ch.Errs W) := fun w6 W t t2 => h.tab W (t.comp t2 fun i _ z => z.elim False.elim .inl)
 have HNM : Hid (∀ w6 W D', Turned (fun _ => False) w w6 → FsTo w6 S d D' W → Calls Tryz.prog 128 #[.int .i64 nx] W fun e w' => e = .returned (.string (Ch.nameS nx)) ∧ FsTo w6 S d D' w') := fun w6 W D' t f => by
  obtain ⟨S1, a1, a2, a3, a4⟩ := f
  exact (Ch.name_any nx hI64 W (HTB.out w6 W t a4).1).mono fun e w' ⟨x1, x2⟩ => ⟨x1, S1, a1.turned x2 fun _ _ z => z, a2, fun b hb => Nat.lt_of_lt_of_le (a3 b hb) x2.size, a4.trans x2 fun _ _ z => z.elim⟩
 have HF0 : Hid (∀ w6, Turned (fun _ => False) w w6 → FsTo w6 S d D w6) := fun w6 t => FsTo.stay (h.disk.turned t fun _ _ z => z) fun b hb => Nat.lt_of_lt_of_le (h.sb b hb) t.size
 have HBK : Hid (∀ w6 W, Turned (fun _ => False) w w6 → Turned S w6 W → W.heap[p]? = some (.cells #[pt d, .slice xa x.links.length xc, gv] 116)) := fun w6 W t t2 => boxed (boxed h.ix.blk t id) t2 hpS
 have HWR : Hid (∀ (D1 : Dk) (tmp tx name : ByteArray) (w6 W : World), Turned (fun _ => False) w w6 → D1.Ok → Few D1 900000000 → tx.size ≤ 1099511627776 → FsTo w6 S d D1 W → Calls Tryz.prog 136 #[pt p, .string tmp, .string tx, .string name] W fun e w' => e = .returned (.int .i64 ((writeX D1 tmp tx name).2 : Nat)) ∧ FsTo w6 S d (writeX D1 tmp tx name).1 w') := fun D1 tmp tx name w6 W t o f z ⟨S1, a1, a2, a3, a4⟩ => by
  have hp1 : ¬ S1 p := fun q => by
   rcases a2 p q with y | y
   ·exact hpS y
   ·have := lt_of_block h.ix.blk; have := t.size; omega
  exact (xwrite_any a1 o f (HBK.out w6 W t a4) hp1 a3 tmp tx name z).mono fun e w' ⟨x1, x2⟩ => ⟨x1, x2.next a2 a4⟩
 have HRM : Hid (∀ (D1 : Dk) (nm : ByteArray) (w6 W : World), Turned (fun _ => False) w w6 → D1.Ok → Few D1 900000000 → FsTo w6 S d D1 W → Calls Tryz.prog 38 #[pt d, .string nm] W fun e w' => (∃ k : Nat, e = .returned (.int .i64 (k : Nat))) ∧ FsTo w6 S d (D1.remove nm).1 w') := fun D1 nm w6 W t o f ⟨S1, a1, a2, a3, a4⟩ =>
  (fsRemove a1 o (by have := f.1; omega) nm).mono fun e w' ⟨x1, x2⟩ => ⟨⟨_, x1⟩, x2.next a2 a4⟩
 have HTS : Hid (T.size ≤ 1099511627776 ∧ text.size ≤ 1099511627776) := ⟨by rw [hT]; omega, by rw [htext]; have := encL_size (linkX x links g); omega⟩
 have HOK : Hid (D.Ok ∧ Few D 800000000) := ⟨h.ok, h.few⟩
 have HSY : Hid (∀ (D1 : Dk) (w6 W : World), Turned (fun _ => False) w w6 → D1.Ok → FsTo w6 S d D1 W → Calls Tryz.prog 74 #[pt d] W fun e w' => e = .returned (.int .i64 (D1.syncNames.2 : Nat)) ∧ FsTo w6 S d D1.syncNames.1 w') := fun D1 w6 W t o ⟨S1, a1, a2, a3, a4⟩ =>
  (fsSyncNames a1 o).mono fun e w' ⟨x1, x2⟩ => ⟨x1, x2.next a2 a4⟩
 rw [← hT, ← hnx] at h1
 rw [← hnx] at HZ
 rw [← htext] at h2
 have HWX : Hid (writeX D ⟨#[103, 114, 97, 112, 104, 46, 116, 109, 112]⟩ T (Ch.nameS nx) = (D1, 0)) := h1
 have HO1 : Hid (D1.Ok ∧ Few D1 800000002) := by
  have := writeX_ok h.ok h.few graphT T (Ch.nameS nx)
  rw [h1] at this
  exact this
 have HWY : Hid (writeX D1 ⟨#[99, 104, 97, 105, 110, 46, 116, 109, 112]⟩ text ⟨#[99, 104, 97, 105, 110]⟩ = (D2, 0)) := h2
 have HO2 : Hid (D2.Ok ∧ Few D2 800000004) := by
  have := writeX_ok HO1.out.1 HO1.out.2 chainT text chainB
  rw [h2] at this
  exact this
 have HWZ : Hid (D2.syncNames = (D3, k)) := h3
 have HE : Hid (D3.Ok ∧ Few D3 800000004) := by
  have a1 := HO2.out.1.syncNamesOk
  have a2 := HO2.out.2.syncNames
  rw [h3] at a1 a2
  exact ⟨a1, a2⟩
 have HFIN : Hid (∀ w6 W, Turned (fun _ => False) w w6 → FsTo w6 S d (failX D3 nx) W → LayPost w S SR rx d p (failX D3 nx, x, k) (.returned (.int .i64 (k : Nat))) W) := fun w6 W t ⟨S1, a1, a2, a3, a4⟩ =>
  ⟨rfl, S1, rx, .slice xa x.links.length xc, gv, a1, fun b hb => (a2 b hb).imp id fun z => Nat.le_trans t.size z, a3, (h.ix.turned t fun _ _ z => z).turned a4 fun b hb z => hb (h.dis b z), fun b hb => .inl hb, fun b hb => by
   rcases a2 b hb with z | z
   ·exact h.dis b z
   ·apply Classical.byContradiction
    intro y
    have := h.ix.bnd b y
    have := t.size
    omega, t.comp a4 fun i _ z => z.elim False.elim .inl⟩
 have e1 : ((k : Int) == 0) = false := by simp; omega
 have e2 : ((k : Int) != 0) = true := by simp; omega
 clear htext hpS hI64 h1 h2 h3 hk
 clear hnb hk2
 clear hZ hV tV xV h he hsz hnx hT hsm hlk hln p1 p1V hnl hK
 go_enter Tryz.func62, Tryz.ntmps62
 go_wp2_with fail
 rw [← HVV.out]
 go_wp2_with (first | (go_at_call 132; (with_reducible refine HEN.out.mono ?_); rintro e w1 ⟨rfl, q1⟩; obtain ⟨p1, p2⟩ := HPX.out w1 q1; replace q1 : Hid _ := hidS q1) | (go_at_call 133; (with_reducible refine (HNX.out _ q1.out).mono ?_); rintro e w2 ⟨rfl, q2⟩; replace q2 : Hid _ := hidS q2))
 have q0 : ¬ V.heap.size ≤ w.heap.size := by have := TV.out.2; omega
 have HXE : Hid (∀ W, Turned (fun _ => False) V W → W.cell? ⟨w.heap.size, 5, none⟩ = some (.slice ra K rc)) := fun W t => (HXV.out W _ t id).1
 have HXF : Hid (∀ W, Turned (fun b => V.heap.size ≤ b) V W → W.cell? ⟨w.heap.size, 5, none⟩ = some (.slice ra K rc)) := fun W t => (HXV.out W _ t (by have := TV.out.2; omega)).1
 clear c0 c1 c2 c3 c4 c5 p1 p2
 go_region_held3 (fun W => W.cell? ⟨w.heap.size, 5, none⟩ = some (.slice ra K rc))
  (first | (exact HXE.out _ q2.out.draw) | (exact HXE.out _ ((q2.out.new _).draw)) | (exact HXE.out _ (by assumption)) | (exact HXF.out _ (by assumption)) | (exact HXE.out _ ((by assumption : Turned (fun _ => False) V _).new _)) | go_keep)
  (first
   | (go_at_call 134; (with_reducible refine (HCL.out w2.drew q2.out.draw).mono ?_); rintro e3 w3 ⟨a3, c3, rfl, hs3, ht3, hu3⟩; replace hs3 : Hid _ := hidS hs3; clear hu3)
   | (go_at_call 134; (with_reducible refine (HCL.out (w2.alloc (.cells #[.string T] 9)).drew ((q2.out.new _).draw)).mono ?_); rintro e3 w3 ⟨a3, c3, rfl, hs3, ht3, hu3⟩; have kb3 := boxed (w := (w2.alloc (.cells #[.string T] 9)).drew) (Go.Mine.heap_alloc_new w2 _) hu3 id; replace hs3 : Hid _ := hidS hs3; clear hu3)
   | (go_at_call 134; (with_reducible refine (HCL.out w4 ht4).mono ?_); rintro e3 w3 ⟨a3, c3, rfl, hs3, ht3, hu3⟩; replace hs3 : Hid _ := hidS hs3; clear hu3)
   | (go_at_call 124; (with_reducible refine (HSM.out (w3.alloc (.cells #[.string T] 9)) w3.heap.size (ht3.new _) (Go.Mine.heap_alloc_new w3 _)).mono ?_); rintro e4 w4 ⟨rfl, ht4, hu4⟩; have hs4 : Hid _ := hidS (hs3.out.turned ((Turned.alloc (fun _ => False) w3 _).trans hu4 fun _ _ z => z) fun _ _ z => z); clear hu4)
   | (go_at_call 124; (with_reducible refine (HSM.out w3 w2.heap.size ht3 kb3).mono ?_); rintro e4 w4 ⟨rfl, ht4, hu4⟩; have hs4 : Hid _ := hidS (hs3.out.turned hu4 fun _ _ z => z); clear hu4)
   | (go_at_call 124; (with_reducible refine (HSM.out (w2.alloc (.cells #[.string T] 9)).drew w2.heap.size ((q2.out.new _).draw) (Go.Mine.heap_alloc_new w2 _)).mono ?_); rintro e4 w4 ⟨rfl, ht4, hu4⟩; clear hu4)
   | (refine step_append (by rfl) _ _ 113 113 (by rfl) (hs4.out.turned (T := fun _ => False) (Turned.alloc _ w4 (.cells #[.int .i64 nx, .int .i64 (K : Int), .int .u32 (sm : Nat)] 120)) fun _ _ z => z) Tryz.underlying113 infoC120 rfl (by decide) (by rfl) (.slice (some ⟨w4.heap.size, 0, none⟩) 1 1) (by rfl) (src120 (.int .i64 nx) (.int .i64 (K : Int)) (.int .u32 (sm : Nat)) (by simp [Value.oneCell']) w4).1 m1.out.1 m1.out.2 ?_; intro v5 w5 hs5 ht5; obtain ⟨a5, c5', rfl, -, -⟩ := hs5.value; have T5 : Turned (fun b => V.heap.size ≤ b) V w5 := (ht4.new _).comp ht5 (fun i _ z => z.elim False.elim id); have Y5 : Hid _ := hidS hs5; clear hs5 ht5)
   | (refine step_append (by rfl) _ _ 113 113 (by rfl) (hs3.out.turned (T := fun _ => False) (Turned.alloc _ w3 (.cells #[.int .i64 nx, .int .i64 (K : Int), .int .u32 (sm : Nat)] 120)) fun _ _ z => z) Tryz.underlying113 infoC120 rfl (by decide) (by rfl) (.slice (some ⟨w3.heap.size, 0, none⟩) 1 1) (by rfl) (src120 (.int .i64 nx) (.int .i64 (K : Int)) (.int .u32 (sm : Nat)) (by simp [Value.oneCell']) w3).1 m1.out.1 m1.out.2 ?_; intro v5 w5 hs5 ht5; obtain ⟨a5, c5', rfl, -, -⟩ := hs5.value; have T5 : Turned (fun b => V.heap.size ≤ b) V w5 := (ht3.new _).comp ht5 (fun i _ z => z.elim False.elim id); have Y5 : Hid _ := hidS hs5; clear hs5 ht5))
 all_goals
  go_wp2_with (first
   | (go_at_call 135; (with_reducible refine (HCE.out w5 _ _ _ Y5.out).mono ?_); rintro e6 w6 ⟨rfl, ht6⟩; have t6 : Turned (fun _ => False) w w6 := (TV.out.1.comp (T5.trans ht6 fun _ _ z => z.elim) fun i hi z => z.elim id fun z => by have := TV.out.2; omega); have f6 : Hid _ := hidS (HF0.out w6 t6); clear ht6 T5)
   | (go_at_call 128; (with_reducible refine (HNM.out w6 w6 D t6 f6.out).mono ?_); rintro e7 w7 ⟨rfl, f7⟩; replace f7 : Hid _ := hidS f7)
   | (go_at_call 136; (with_reducible refine (HWR.out D ⟨#[103, 114, 97, 112, 104, 46, 116, 109, 112]⟩ T (Ch.nameS nx) w6 w7 t6 HOK.out.1 (HOK.out.2.mono (by omega)) HTS.out.1 f7.out).mono ?_); rintro ea wa ⟨rfl, fa⟩; rw [HWX.out] at fa ⊢; obtain ⟨pp0, pp1⟩ := HPC.out w6 wa t6 (by obtain ⟨_, _, _, _, t⟩ := fa; exact t); replace fa : Hid _ := hidS fa)
   | (go_at_call 136; (with_reducible refine (HWR.out D1 ⟨#[99, 104, 97, 105, 110, 46, 116, 109, 112]⟩ text ⟨#[99, 104, 97, 105, 110]⟩ w6 wa t6 HO1.out.1 (HO1.out.2.mono (by omega)) HTS.out.2 fa.out).mono ?_); rintro eb wb ⟨rfl, fb⟩; rw [HWY.out] at fb ⊢; obtain ⟨pp0, pp1⟩ := HPC.out w6 wb t6 (by obtain ⟨_, _, _, _, t⟩ := fb; exact t); replace fb : Hid _ := hidS fb)
   | (go_at_call 74; (with_reducible refine (HSY.out D2 w6 wb t6 HO2.out.1 fb.out).mono ?_); rintro ec wc ⟨rfl, fc⟩; rw [HWZ.out] at fc ⊢; obtain ⟨pp0, pp1⟩ := HPC.out w6 wc t6 (by obtain ⟨_, _, _, _, t⟩ := fc; exact t); replace fc : Hid _ := hidS fc))
  go_wp2_with (first
   | (go_at_call 38; (with_reducible refine (HRM.out D3 ⟨#[103, 114, 97, 112, 104, 46, 116, 109, 112]⟩ w6 _ t6 HE.out.1 (HE.out.2.mono (by omega)) fc.out).mono ?_); rintro e8 w8 ⟨⟨r8, rfl⟩, f8⟩; obtain ⟨pp0, pp1⟩ := HPC.out w6 w8 t6 (by obtain ⟨_, _, _, _, t⟩ := f8; exact t); replace f8 : Hid _ := hidS f8)
   | (go_at_call 38; (with_reducible refine (HRM.out _ ⟨#[99, 104, 97, 105, 110, 46, 116, 109, 112]⟩ w6 _ t6 (HE.out.1.removeOk ⟨#[103, 114, 97, 112, 104, 46, 116, 109, 112]⟩) ((HE.out.2.remove ⟨#[103, 114, 97, 112, 104, 46, 116, 109, 112]⟩).mono (by omega)) f8.out).mono ?_); rintro e9 w9 ⟨⟨r9, rfl⟩, f9⟩; obtain ⟨pp0, pp1⟩ := HPC.out w6 w9 t6 (by obtain ⟨_, _, _, _, t⟩ := f9; exact t); replace f9 : Hid _ := hidS f9))
  go_region_held3 (fun W => W.cell? ⟨p, 0, none⟩ = some (pt d))
   (first | (exact (HPC.out w6 _ t6 (by obtain ⟨_, _, _, _, t⟩ := f9.out; exact t.draw)).1) | (exact (HPC.out w6 _ t6 (by obtain ⟨_, _, _, _, t⟩ := fA; exact t)).1) | (exact (HPC.out w6 _ t6 (by obtain ⟨_, _, _, _, t⟩ := fB; exact t)).1) | go_keep)
   (first
    | (go_at_call 128; (with_reducible refine (HNM.out w6 _ _ t6 (FsTo.draw f9.out)).mono ?_); rintro eA wA ⟨rfl, fA⟩)
    | (go_at_call 38; (with_reducible refine (HRM.out _ (Ch.nameS nx) w6 _ t6 ((HE.out.1.removeOk ⟨#[103, 114, 97, 112, 104, 46, 116, 109, 112]⟩).removeOk ⟨#[99, 104, 97, 105, 110, 46, 116, 109, 112]⟩) (((HE.out.2.remove ⟨#[103, 114, 97, 112, 104, 46, 116, 109, 112]⟩).remove ⟨#[99, 104, 97, 105, 110, 46, 116, 109, 112]⟩).mono (by omega)) fA).mono ?_); rintro eB wB ⟨⟨rB, rfl⟩, fB⟩))
  go_wp2
  rw [HZ.out]
  exact HFIN.out w6 wB t6 fB
end Go.Proofs.YtofcogekgcgjhaaGreatDoor
