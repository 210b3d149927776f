/- Packed. -/
import Derived.Test.YtofcogekgcgjhaaGreatDoorZzbo
import Derived.Test.YtofcogekgcgjhaaGreatDoorZzbp
set_option linter.unusedVariables false
set_option linter.unusedSimpArgs false
set_option maxRecDepth 100000
namespace Go.Proofs.YtofcogekgcgjhaaGreatDoor
open Go.RowKit Go.Mine Go.Mine.Ac
set_option maxHeartbeats 8000000 in
theorem xlay_ok {w : World} {S SL SG SR : Nat → Prop} {rx : Nat → Nat} {d p : Nat} {lv gv : Value} {D : Dk} {x : Ix} {la ga ra : Option Addr} {lc gc rc : Nat} {links : List Ch.Ln} {graphs : List Gr} {gvs : List Value} {g : Gr} (h : LayIn w S rx d p lv gv D x SL SG SR la lc links ga gc graphs gvs ra rc g) (he : (encE g).2 = 0) (he2 : (encL (linkX x links g)).2 = 0) {D1 D2 D3 : Dk} (h1 : writeX D graphT (encE g).1 (Ch.nameS (Ch.nxt x.links)) = (D1, 0)) (h2 : writeX D1 chainT (encL (linkX x links g)).1 chainB = (D2, 0)) (h3 : D2.syncNames = (D3, 0)) :
  Calls Tryz.prog 62 #[pt p, .slice la links.length lc, .slice ga graphs.length gc, grv ra rc g] w (LayPost w S SR rx d p (layX D x links graphs g)) := by
 rw [layX_ok he he2 ((layTail_3 h1 h2).trans h3)]
 obtain ⟨Z, hZ⟩ : ∃ Z, Z = LayPost w S SR rx d p (sweepX (linkX x links g) D3.names D3, ⟨linkX x links g, graphs ++ [g]⟩, 0) := ⟨_, rfl⟩
 have HZ : Hid (Z = LayPost w S SR rx d p (sweepX (linkX x links g) D3.names D3, ⟨linkX x links g, graphs ++ [g]⟩, 0)) := hZ
 rw [← hZ]
 obtain ⟨V, hV⟩ : ∃ V, V = w.alloc (.cells #[.int .i64 g.base, .int .i64 g.h, .int .i64 g.p, .int .i64 g.m, .int .u32 (g.seed : Nat), .slice ra g.rows.length rc] 123) := ⟨_, rfl⟩
 have HVV : Hid (V = w.alloc (.cells #[.int .i64 g.base, .int .i64 g.h, .int .i64 g.p, .int .i64 g.m, .int .u32 (g.seed : Nat), .slice ra g.rows.length rc] 123)) := hV
 have tV : Turned (fun _ => False) w V := by rw [hV]; exact Turned.alloc _ _ _
 have xV : V.heap[w.heap.size]? = some (.cells #[.int .i64 g.base, .int .i64 g.h, .int .i64 g.p, .int .i64 g.m, .int .u32 (g.seed : Nat), .slice ra g.rows.length rc] 123) := by rw [hV]; exact heap_alloc_new _ _
 have hsz := encE_size g
 have HEN : Hid (Calls Tryz.prog 132 #[.agg #[.int .i64 g.base, .int .i64 g.h, .int .i64 g.p, .int .i64 g.m, .int .u32 (g.seed : Nat), .slice ra g.rows.length rc]] V fun e w' => e = .returned (.tuple #[.string (encE g).1, .int .i64 0]) ∧ Turned (fun _ => False) V w') := by
  have := encode_any SR ra rc g V (h.rows.turned tV fun _ _ z => z) h.gok
  rw [encG_eq, he] at this
  exact this
 have c0 : V.cell? ⟨w.heap.size, 0, none⟩ = some (.int .i64 g.base) := cell_of xV 0 _ rfl
 have c1 : V.cell? ⟨w.heap.size, 1, none⟩ = some (.int .i64 g.h) := cell_of xV 1 _ rfl
 have c2 : V.cell? ⟨w.heap.size, 2, none⟩ = some (.int .i64 g.p) := cell_of xV 2 _ rfl
 have c3 : V.cell? ⟨w.heap.size, 3, none⟩ = some (.int .i64 g.m) := cell_of xV 3 _ rfl
 have c4 : V.cell? ⟨w.heap.size, 4, none⟩ = some (.int .u32 (g.seed : Nat)) := cell_of xV 4 _ rfl
 have c5 : V.cell? ⟨w.heap.size, 5, none⟩ = some (.slice ra g.rows.length rc) := cell_of xV 5 _ rfl
 have hlt := lt_of_block xV
 obtain ⟨nx, hnx⟩ : ∃ nx, nx = Ch.nxt x.links := ⟨_, rfl⟩
 obtain ⟨T, hT⟩ : ∃ T, T = (encE g).1 := ⟨_, rfl⟩
 obtain ⟨sm, hsm⟩ : ∃ sm, sm = Crc.sum (nums T) := ⟨_, rfl⟩
 have hlk : linkX x links g = links ++ [(nx, (g.rows.length : Int), sm)] := by unfold linkX; rw [← hnx, ← hT, ← hsm]
 rw [← hT] at HEN
 obtain ⟨xa, xc, hlv, hln⟩ := Ch.sl_lnIs h.ix.links (LnOk.of h.ixok)
 subst hlv
 have p1 : w.cell? ⟨p, 1, none⟩ = some (.slice xa x.links.length xc) := cell_of h.ix.blk 1 _ rfl
 have p1V := cell_at p1 tV id
 have HPX : Hid (∀ W, Turned (fun _ => False) V W → W.cell? ⟨p, 1, none⟩ = some (.slice xa x.links.length xc) ∧ p < W.heap.size) := fun W t => ⟨cell_at p1V t id, Nat.lt_of_lt_of_le (lt_of_block h.ix.blk) (Nat.le_trans tV.size t.size)⟩
 have HNX : Hid (∀ W, Turned (fun _ => False) V W → Calls Tryz.prog 133 #[.slice xa x.links.length xc] W fun e w' => e = .returned (.int .i64 nx) ∧ Turned (fun _ => False) V w') := fun W t => by
  rw [hnx]
  exact (Ch.next_any xa xc x.links W ((hln.turned tV).turned t) (by have := h.ixok.many; omega) h.low).mono fun e w' ⟨a, b⟩ => ⟨a, t.trans b fun _ _ z => z⟩
 obtain ⟨nl, hnl⟩ : ∃ nl, nl = links.length := ⟨_, rfl⟩
 have HCL : Hid (∀ W, Turned (fun _ => False) V W → Calls Tryz.prog 134 #[.slice la nl lc] W fun e w' => ∃ a c, e = .returned (.slice a nl c) ∧ Sl w' (fun b => V.heap.size ≤ b) 120 3 (.slice a nl c) (Ch.lcells links) nl ∧ Turned (fun _ => False) V w' ∧ Turned (fun _ => False) W w') := fun W t => by
  rw [hnl]
  have hl := (h.ls.turned tV fun _ _ z => z).turned t fun _ _ z => z
  refine (clone_links W (fun w' t' => (hl.turned t' fun _ _ z => z).src Tryz.underlying113 (lcells_one _)) (sl_none hl) (by have := h.lmany; omega)).mono fun e w' ⟨v, a, b, c⟩ => ?_
  obtain ⟨ca, cc, rfl, -, -⟩ := b.value
  exact ⟨ca, cc, a, b.widen fun x hx => Nat.le_trans t.size hx, t.trans c fun _ _ z => z, c⟩
 have HSM : Hid (∀ W b, Turned (fun _ => False) V W → W.heap[b]? = some (.cells #[.string T] 9) → Calls Tryz.prog 124 #[.slice (some ⟨b, 0, none⟩) 1 1] W fun e w' => e = .returned (.int .u32 (sm : Nat)) ∧ Turned (fun _ => False) V w' ∧ Turned (fun _ => False) W w') := fun W b t hb => by
  rw [hsm]
  exact (sum_one b 0 1 T W (cell_of hb 0 _ rfl) (lt_of_block hb) (by rw [hT]; omega)).mono fun e w' ⟨a, q⟩ => ⟨a, t.trans q fun _ _ z => z, q⟩
 have TV : Hid (Turned (fun _ => False) w V ∧ w.heap.size < V.heap.size) := ⟨tV, hlt⟩
 have HXV : Hid (∀ W (Q : Nat → Prop), Turned Q V W → ¬ Q w.heap.size → W.cell? ⟨w.heap.size, 5, none⟩ = some (.slice ra g.rows.length rc) ∧ w.heap.size < W.heap.size) := fun W Q t z => ⟨cell_at c5 t z, Nat.lt_of_lt_of_le hlt t.size⟩
 have HH : Hid _ := hidS h
 obtain ⟨K, hK⟩ : ∃ K, K = g.rows.length := ⟨_, rfl⟩
 rw [← hK] at c5 HXV HEN hlk HVV
 have HLK : Hid (linkX x links g = links ++ [(nx, (K : Int), sm)] ∧ nl = links.length ∧ K = g.rows.length) := ⟨hlk, hnl, hK⟩
 have m1 : Hid (nl + 1 ≤ maxLen ∧ (nl + 1) * 24 ≤ 140737488355328) := hidS (by have := h.lmany; simp only [maxLen]; omega)
 rw [← hnl]
 dsimp only [grv]
 rw [← hK]
 obtain ⟨gl, hgl⟩ : ∃ gl, gl = graphs.length := ⟨_, rfl⟩
 rw [← hgl]
 have hnb := Ch.nxt_bound x.links h.low
 have HCE : Hid (∀ (W : World) (S' : Nat → Prop) (a : Option Addr) (c : Nat), Sl W S' 120 3 (.slice a (nl + 1) c) (Ch.lcells links ++ [.int .i64 nx, .int .i64 (K : Int), .int .u32 (sm : Nat)]) (nl + 1) → Calls Tryz.prog 135 #[.slice a (nl + 1) c] W fun e w' => e = .returned (.tuple #[.string (encL (linkX x links g)).1, .int .i64 ((encL (linkX x links g)).2 : Nat)]) ∧ Turned (fun _ => False) W w') := fun W S' a c hs => by
  have hll : (linkX x links g).length = nl + 1 := by rw [hlk, hnl]; simp
  have hcc : Ch.lcells (linkX x links g) = Ch.lcells links ++ [.int .i64 nx, .int .i64 (K : Int), .int .u32 (sm : Nat)] := by rw [hlk, lcells_app]; rfl
  rw [← hcc, ← hll] at hs
  obtain ⟨a', c', hv, hl⟩ := Ch.sl_lnIs hs fun y hy => by
   rw [hlk] at hy
   rcases List.mem_append.1 hy with q | q
   ·exact h.lok y q
   ·rw [List.mem_singleton] at q
    subst q
    have := h.gfew
    refine ⟨⟨by simp only; omega, by simp only; omega⟩, ⟨by simp only; omega, by simp only; omega⟩, ?_⟩
    simp only
    rw [hsm]
    exact crcsum_lt _
  simp only [Value.slice.injEq] at hv
  obtain ⟨rfl, -, rfl⟩ := hv
  have := Ch.encode_any a c (linkX x links g) W hl
  rw [encV_eq, hll] at this
  exact this
 have HLO : Hid (Ch.LnOk (linkX x links g) ∧ (linkX x links g).length ≤ 8) := hidS (lay_lok h he2)
 obtain ⟨k2, hk2⟩ : ∃ k2, k2 = (encL (linkX x links g)).2 := ⟨_, rfl⟩
 rw [← hk2] at HCE he2
 subst he2
 obtain ⟨text, htext⟩ : ∃ text, text = (encL (linkX x links g)).1 := ⟨_, rfl⟩
 rw [← htext] at HCE
 have hpS : ¬ S p := fun z => by have := h.dis p z; rw [h.ix.r1] at this; simp at this
 have HPC : Hid (∀ w6 W, Turned (fun _ => False) w w6 → Turned S w6 W → W.cell? ⟨p, 0, none⟩ = some (pt d) ∧ p < W.heap.size) := fun w6 W t t2 => by
  have := boxed (boxed h.ix.blk t id) t2 hpS
  exact ⟨cell_of this 0 _ rfl, lt_of_block this⟩
 have hI64 : I64 nx := ⟨by omega, by omega⟩
 have HTB : Hid (∀ w6 W, Turned (fun _ => False) w w6 → Turned S w6 W → Ch.Tab W ∧ Ch.Errs W) := fun w6 W t t2 => h.tab W (t.comp t2 fun i _ z => z.elim False.elim .inl)
 have HNM : Hid (∀ w6 W D', Turned (fun _ => False) w w6 → FsTo w6 S d D' W → Calls Tryz.prog 128 #[.int .i64 nx] W fun e w' => e = .returned (.string (Ch.nameS nx)) ∧ FsTo w6 S d D' w') := fun w6 W D' t f => by
  obtain ⟨S1, a1, a2, a3, a4⟩ := f
  exact (Ch.name_any nx hI64 W (HTB.out w6 W t a4).1).mono fun e w' ⟨x1, x2⟩ => ⟨x1, S1, a1.turned x2 fun _ _ z => z, a2, fun b hb => Nat.lt_of_lt_of_le (a3 b hb) x2.size, a4.trans x2 fun _ _ z => z.elim⟩
 have HF0 : Hid (∀ w6, Turned (fun _ => False) w w6 → FsTo w6 S d D w6) := fun w6 t => FsTo.stay (h.disk.turned t fun _ _ z => z) fun b hb => Nat.lt_of_lt_of_le (h.sb b hb) t.size
 have HBK : Hid (∀ w6 W, Turned (fun _ => False) w w6 → Turned S w6 W → W.heap[p]? = some (.cells #[pt d, .slice xa x.links.length xc, gv] 116)) := fun w6 W t t2 => boxed (boxed h.ix.blk t id) t2 hpS
 have HWR : Hid (∀ (D1 : Dk) (tmp tx name : ByteArray) (w6 W : World), Turned (fun _ => False) w w6 → D1.Ok → Few D1 900000000 → tx.size ≤ 1099511627776 → FsTo w6 S d D1 W → Calls Tryz.prog 136 #[pt p, .string tmp, .string tx, .string name] W fun e w' => e = .returned (.int .i64 ((writeX D1 tmp tx name).2 : Nat)) ∧ FsTo w6 S d (writeX D1 tmp tx name).1 w') := fun D1 tmp tx name w6 W t o f z ⟨S1, a1, a2, a3, a4⟩ => by
  have hp1 : ¬ S1 p := fun q => by
   rcases a2 p q with y | y
   ·exact hpS y
   ·have := lt_of_block h.ix.blk; have := t.size; omega
  exact (xwrite_any a1 o f (HBK.out w6 W t a4) hp1 a3 tmp tx name z).mono fun e w' ⟨x1, x2⟩ => ⟨x1, x2.next a2 a4⟩
 have HRM : Hid (∀ (D1 : Dk) (nm : ByteArray) (w6 W : World), Turned (fun _ => False) w w6 → D1.Ok → Few D1 900000000 → FsTo w6 S d D1 W → Calls Tryz.prog 38 #[pt d, .string nm] W fun e w' => (∃ k : Nat, e = .returned (.int .i64 (k : Nat))) ∧ FsTo w6 S d (D1.remove nm).1 w') := fun D1 nm w6 W t o f ⟨S1, a1, a2, a3, a4⟩ =>
  (fsRemove a1 o (by have := f.1; omega) nm).mono fun e w' ⟨x1, x2⟩ => ⟨⟨_, x1⟩, x2.next a2 a4⟩
 have HTS : Hid (T.size ≤ 1099511627776 ∧ text.size ≤ 1099511627776) := ⟨by rw [hT]; omega, by rw [htext]; have := encL_size (linkX x links g); omega⟩
 have HOK : Hid (D.Ok ∧ Few D 800000000) := ⟨h.ok, h.few⟩
 have HSY : Hid (∀ (D1 : Dk) (w6 W : World), Turned (fun _ => False) w w6 → D1.Ok → FsTo w6 S d D1 W → Calls Tryz.prog 74 #[pt d] W fun e w' => e = .returned (.int .i64 (D1.syncNames.2 : Nat)) ∧ FsTo w6 S d D1.syncNames.1 w') := fun D1 w6 W t o ⟨S1, a1, a2, a3, a4⟩ =>
  (fsSyncNames a1 o).mono fun e w' ⟨x1, x2⟩ => ⟨x1, x2.next a2 a4⟩
 rw [← hT, ← hnx] at h1
 rw [← htext] at h2
 have HWX : Hid (writeX D ⟨#[103, 114, 97, 112, 104, 46, 116, 109, 112]⟩ T (Ch.nameS nx) = (D1, 0)) := h1
 have HO1 : Hid (D1.Ok ∧ Few D1 800000002) := by
  have := writeX_ok h.ok h.few graphT T (Ch.nameS nx)
  rw [h1] at this
  exact this
 have HWY : Hid (writeX D1 ⟨#[99, 104, 97, 105, 110, 46, 116, 109, 112]⟩ text ⟨#[99, 104, 97, 105, 110]⟩ = (D2, 0)) := h2
 have HO2 : Hid (D2.Ok ∧ Few D2 800000004) := by
  have := writeX_ok HO1.out.1 HO1.out.2 chainT text chainB
  rw [h2] at this
  exact this
 have HWZ : Hid (D2.syncNames = (D3, 0)) := h3
 have HO3 : Hid (D3.Ok ∧ Few D3 800000004) := by
  have a1 := HO2.out.1.syncNamesOk
  have a2 := HO2.out.2.syncNames
  rw [h3] at a1 a2
  exact ⟨a1, a2⟩
 have HSG : Hid (∀ w6 wc W, Turned (fun _ => False) w w6 → FsTo w6 S d D3 wc → Turned (fun _ => False) wc W → Sl W SG 123 6 (.slice ga gl gc) gvs gl) := fun w6 wc W t f t2 => by
  obtain ⟨_, _, _, _, f4⟩ := f
  rw [hgl]
  exact ((h.gs.turned t fun _ _ z => z).turned f4 fun b hb => (h.sg b hb).1).turned t2 fun _ _ z => z
 have HGO : Hid (∀ u ∈ gvs, u.oneCell' = true) := gcells_one h.gs.1 h.gat
 have HGN : Hid (ga = none → gl = 0) := fun q => by subst q; rw [hgl]; exact sl_none h.gs rfl
 have m2 : Hid (gl + 1 ≤ maxLen ∧ (gl + 1) * 64 ≤ 140737488355328 ∧ gl ≤ 8) := hidS (by have := h.gmany; simp only [maxLen]; omega)
 have HCG : Hid (∀ w6 wc W, Turned (fun _ => False) w w6 → FsTo w6 S d D3 wc → Turned (fun _ => False) wc W → Calls Tryz.prog 137 #[.slice ga gl gc] W fun e w' => ∃ a c, e = .returned (.slice a gl c) ∧ Sl w' (fun b => wc.heap.size ≤ b ∧ b < w'.heap.size) 123 6 (.slice a gl c) gvs gl ∧ Turned (fun _ => False) wc w' ∧ Turned (fun _ => False) W w') := fun w6 wc W t f t2 => by
  refine (clone_graphs W (fun w' t' => ((HSG.out w6 wc W t f t2).turned t' fun _ _ z => z).src Tryz.underlying114 HGO.out) HGN.out (by have := m2.out; omega)).mono fun e w' ⟨v, a, b, c⟩ => ?_
  obtain ⟨ca, cc, rfl, -, -⟩ := b.value
  exact ⟨ca, cc, a, b.bound.widen fun x hx => ⟨Nat.le_trans t2.size hx.1, hx.2⟩, t2.trans c fun _ _ z => z, c⟩
 have HPF : Hid (∀ w6 wc W, Turned (fun _ => False) w w6 → FsTo w6 S d D3 wc → Turned (fun b => wc.heap.size ≤ b) wc W → W.cell? ⟨p, 1, none⟩ = some (.slice xa x.links.length xc) ∧ W.frozen? ⟨p, 1, none⟩ = false ∧ W.cell? ⟨p, 2, none⟩ = some gv ∧ W.frozen? ⟨p, 2, none⟩ = false ∧ p < W.heap.size) := fun w6 wc W t f t2 => by
  obtain ⟨_, _, _, _, f4⟩ := f
  have hb := boxed (HBK.out w6 wc t f4) t2 (by have := lt_of_block (HBK.out w6 wc t f4); omega)
  exact ⟨cell_of hb 1 _ rfl, free_of hb 1, cell_of hb 2 _ rfl, free_of hb 2, lt_of_block hb⟩
 have HL6 : Hid (∀ w5 w6 a c, Sl w5 (fun b => V.heap.size ≤ b) 120 3 (.slice a (nl + 1) c) (Ch.lcells links ++ [.int .i64 nx, .int .i64 (K : Int), .int .u32 (sm : Nat)]) (nl + 1) → Turned (fun _ => False) w5 w6 → Sl w6 (fun b => V.heap.size ≤ b) 120 3 (.slice a (nl + 1) c) (Ch.lcells (linkX x links g)) (linkX x links g).length) := fun w5 w6 a c s t => by
  have hll : (linkX x links g).length = nl + 1 := by rw [HLK.out.1, HLK.out.2.1]; simp
  have hcc : Ch.lcells (linkX x links g) = Ch.lcells links ++ [.int .i64 nx, .int .i64 (K : Int), .int .u32 (sm : Nat)] := by rw [HLK.out.1, lcells_app]; rfl
  rw [hll, hcc]
  exact s.turned t fun _ _ z => z
 have HMID : Hid (∀ w6 wc W w9 a5 c5 a9 c9 S', Turned (fun _ => False) w w6 → Sl w6 (fun b => V.heap.size ≤ b) 120 3 (.slice a5 (nl + 1) c5) (Ch.lcells (linkX x links g)) (linkX x links g).length → FsTo w6 S d D3 wc → Turned (fun _ => False) wc W → (∀ b, S' b → wc.heap.size ≤ b) → Turned S' W w9 →
   Sl w9 (More S' W) 123 6 (.slice a9 (gl + 1) c9) (gvs ++ [.int .i64 g.base, .int .i64 g.h, .int .i64 g.p, .int .i64 g.m, .int .u32 (g.seed : Nat), .slice ra K rc]) (gl + 1) →
   LayMid w S SR rx d p D3 ⟨linkX x links g, graphs ++ [g]⟩ (.slice a5 (nl + 1) c5) ((w9.setCell ⟨p, 1, none⟩ (.slice a5 (nl + 1) c5)).setCell ⟨p, 2, none⟩ (.slice a9 (gl + 1) c9))) := fun w6 wc W w9 a5 c5 a9 c9 S' t s f t2 hS t9 s9 => by
  rw [HLK.out.2.2, hgl] at s9
  refine lay_ix h (nv := V.heap.size) (by have := TV.out.2; omega) s t f (S' := fun b => More S' W b ∧ b < w9.heap.size) ?_ (fun b hb => ⟨?_, hb.2⟩) (t2.comp t9 fun i hi z => z.elim False.elim fun z => hS i z)
  ·rw [hgl]; exact s9.bound
  ·exact hb.1.elim (hS b) fun z => Nat.le_trans t2.size z
 have HXW : Hid (∀ w6 wc W, Turned (fun b => V.heap.size ≤ b) V w6 → FsTo w6 S d D3 wc → Turned (fun b => wc.heap.size ≤ b) wc W → W.heap[w.heap.size]? = some (.cells #[.int .i64 g.base, .int .i64 g.h, .int .i64 g.p, .int .i64 g.m, .int .u32 (g.seed : Nat), .slice ra K rc] 123)) := fun w6 wc W t f t2 => by
  obtain ⟨_, _, _, _, f4⟩ := f
  have z1 := lt_of_block xV
  have z2 := t.size
  rw [hK]
  exact boxed (boxed (boxed xV t (by omega)) f4 (fun z => by have := h.sb _ z; omega)) t2 (by have := f4.size; omega)
 clear htext hpS hI64 h1 h2 h3 hgl
 clear hnb hk2
 clear hZ hV tV xV h he hsz hnx hT hsm hlk hln p1 p1V hnl hK
 go_enter Tryz.func62, Tryz.ntmps62
 go_wp2_with fail
 rw [← HVV.out]
 go_wp2_with (first | (go_at_call 132; (with_reducible refine HEN.out.mono ?_); rintro e w1 ⟨rfl, q1⟩; obtain ⟨p1, p2⟩ := HPX.out w1 q1; replace q1 : Hid _ := hidS q1) | (go_at_call 133; (with_reducible refine (HNX.out _ q1.out).mono ?_); rintro e w2 ⟨rfl, q2⟩; replace q2 : Hid _ := hidS q2))
 have q0 : ¬ V.heap.size ≤ w.heap.size := by have := TV.out.2; omega
 have HXE : Hid (∀ W, Turned (fun _ => False) V W → W.cell? ⟨w.heap.size, 5, none⟩ = some (.slice ra K rc)) := fun W t => (HXV.out W _ t id).1
 have HXF : Hid (∀ W, Turned (fun b => V.heap.size ≤ b) V W → W.cell? ⟨w.heap.size, 5, none⟩ = some (.slice ra K rc)) := fun W t => (HXV.out W _ t (by have := TV.out.2; omega)).1
 clear c0 c1 c2 c3 c4 c5 p1 p2
 go_region_held3 (fun W => W.cell? ⟨w.heap.size, 5, none⟩ = some (.slice ra K rc))
  (first | (exact HXE.out _ q2.out.draw) | (exact HXE.out _ ((q2.out.new _).draw)) | (exact HXE.out _ (by assumption)) | (exact HXF.out _ (by assumption)) | (exact HXE.out _ ((by assumption : Turned (fun _ => False) V _).new _)) | go_keep)
  (first
   | (go_at_call 134; (with_reducible refine (HCL.out w2.drew q2.out.draw).mono ?_); rintro e3 w3 ⟨a3, c3, rfl, hs3, ht3, hu3⟩; replace hs3 : Hid _ := hidS hs3; clear hu3)
   | (go_at_call 134; (with_reducible refine (HCL.out (w2.alloc (.cells #[.string T] 9)).drew ((q2.out.new _).draw)).mono ?_); rintro e3 w3 ⟨a3, c3, rfl, hs3, ht3, hu3⟩; have kb3 := boxed (w := (w2.alloc (.cells #[.string T] 9)).drew) (Go.Mine.heap_alloc_new w2 _) hu3 id; replace hs3 : Hid _ := hidS hs3; clear hu3)
   | (go_at_call 134; (with_reducible refine (HCL.out w4 ht4).mono ?_); rintro e3 w3 ⟨a3, c3, rfl, hs3, ht3, hu3⟩; replace hs3 : Hid _ := hidS hs3; clear hu3)
   | (go_at_call 124; (with_reducible refine (HSM.out (w3.alloc (.cells #[.string T] 9)) w3.heap.size (ht3.new _) (Go.Mine.heap_alloc_new w3 _)).mono ?_); rintro e4 w4 ⟨rfl, ht4, hu4⟩; have hs4 : Hid _ := hidS (hs3.out.turned ((Turned.alloc (fun _ => False) w3 _).trans hu4 fun _ _ z => z) fun _ _ z => z); clear hu4)
   | (go_at_call 124; (with_reducible refine (HSM.out w3 w2.heap.size ht3 kb3).mono ?_); rintro e4 w4 ⟨rfl, ht4, hu4⟩; have hs4 : Hid _ := hidS (hs3.out.turned hu4 fun _ _ z => z); clear hu4)
   | (go_at_call 124; (with_reducible refine (HSM.out (w2.alloc (.cells #[.string T] 9)).drew w2.heap.size ((q2.out.new _).draw) (Go.Mine.heap_alloc_new w2 _)).mono ?_); rintro e4 w4 ⟨rfl, ht4, hu4⟩; clear hu4)
   | (refine step_append (by rfl) _ _ 113 113 (by rfl) (hs4.out.turned (T := fun _ => False) (Turned.alloc _ w4 (.cells #[.int .i64 nx, .int .i64 (K : Int), .int .u32 (sm : Nat)] 120)) fun _ _ z => z) Tryz.underlying113 infoC120 rfl (by decide) (by rfl) (.slice (some ⟨w4.heap.size, 0, none⟩) 1 1) (by rfl) (src120 (.int .i64 nx) (.int .i64 (K : Int)) (.int .u32 (sm : Nat)) (by simp [Value.oneCell']) w4).1 m1.out.1 m1.out.2 ?_; intro v5 w5 hs5 ht5; obtain ⟨a5, c5', rfl, -, -⟩ := hs5.value; have T5 : Turned (fun b => V.heap.size ≤ b) V w5 := (ht4.new _).comp ht5 (fun i _ z => z.elim False.elim id); have Y5 : Hid _ := hidS (hs5.widen (T := fun b => V.heap.size ≤ b) fun b hb => hb.elim id fun z => Nat.le_trans (ht4.new _).size z); clear hs5 ht5)
   | (refine step_append (by rfl) _ _ 113 113 (by rfl) (hs3.out.turned (T := fun _ => False) (Turned.alloc _ w3 (.cells #[.int .i64 nx, .int .i64 (K : Int), .int .u32 (sm : Nat)] 120)) fun _ _ z => z) Tryz.underlying113 infoC120 rfl (by decide) (by rfl) (.slice (some ⟨w3.heap.size, 0, none⟩) 1 1) (by rfl) (src120 (.int .i64 nx) (.int .i64 (K : Int)) (.int .u32 (sm : Nat)) (by simp [Value.oneCell']) w3).1 m1.out.1 m1.out.2 ?_; intro v5 w5 hs5 ht5; obtain ⟨a5, c5', rfl, -, -⟩ := hs5.value; have T5 : Turned (fun b => V.heap.size ≤ b) V w5 := (ht3.new _).comp ht5 (fun i _ z => z.elim False.elim id); have Y5 : Hid _ := hidS (hs5.widen (T := fun b => V.heap.size ≤ b) fun b hb => hb.elim id fun z => Nat.le_trans (ht3.new _).size z); clear hs5 ht5))
 all_goals
  go_wp2_with (first
   | (go_at_call 135; (with_reducible refine (HCE.out w5 _ _ _ Y5.out).mono ?_); rintro e6 w6 ⟨rfl, ht6⟩; have t6 : Turned (fun _ => False) w w6 := (TV.out.1.comp (T5.trans ht6 fun _ _ z => z.elim) fun i hi z => z.elim id fun z => by have := TV.out.2; omega); have f6 : Hid _ := hidS (HF0.out w6 t6); have s6 : Hid _ := hidS (HL6.out w5 w6 _ _ Y5.out ht6); have v6 : Hid (Turned (fun b => V.heap.size ≤ b) V w6) := hidS (T5.trans ht6 fun _ _ z => z.elim); clear ht6 T5)
   | (go_at_call 128; (with_reducible refine (HNM.out w6 w6 D t6 f6.out).mono ?_); rintro e7 w7 ⟨rfl, f7⟩; replace f7 : Hid _ := hidS f7)
   | (go_at_call 136; (with_reducible refine (HWR.out D ⟨#[103, 114, 97, 112, 104, 46, 116, 109, 112]⟩ T (Ch.nameS nx) w6 w7 t6 HOK.out.1 (HOK.out.2.mono (by omega)) HTS.out.1 f7.out).mono ?_); rintro ea wa ⟨rfl, fa⟩; rw [HWX.out] at fa ⊢; obtain ⟨pp0, pp1⟩ := HPC.out w6 wa t6 (by obtain ⟨_, _, _, _, t⟩ := fa; exact t); replace fa : Hid _ := hidS fa)
   | (go_at_call 136; (with_reducible refine (HWR.out D1 ⟨#[99, 104, 97, 105, 110, 46, 116, 109, 112]⟩ text ⟨#[99, 104, 97, 105, 110]⟩ w6 wa t6 HO1.out.1 (HO1.out.2.mono (by omega)) HTS.out.2 fa.out).mono ?_); rintro eb wb ⟨rfl, fb⟩; rw [HWY.out] at fb ⊢; obtain ⟨pp0, pp1⟩ := HPC.out w6 wb t6 (by obtain ⟨_, _, _, _, t⟩ := fb; exact t); replace fb : Hid _ := hidS fb)
   | (go_at_call 74; (with_reducible refine (HSY.out D2 w6 wb t6 HO2.out.1 fb.out).mono ?_); rintro ec wc ⟨rfl, fc⟩; rw [HWZ.out] at fc ⊢; obtain ⟨pp0, pp1⟩ := HPC.out w6 wc t6 (by obtain ⟨_, _, _, _, t⟩ := fc; exact t); replace fc : Hid _ := hidS fc))
  have b6 := HXW.out w6 wc wc v6.out fc.out (Turned.refl _ _)
  have k0 : wc.cell? ⟨w.heap.size, 0, none⟩ = some (.int .i64 g.base) := cell_of b6 0 _ rfl
  have k1 : wc.cell? ⟨w.heap.size, 1, none⟩ = some (.int .i64 g.h) := cell_of b6 1 _ rfl
  have k2 : wc.cell? ⟨w.heap.size, 2, none⟩ = some (.int .i64 g.p) := cell_of b6 2 _ rfl
  have k3 : wc.cell? ⟨w.heap.size, 3, none⟩ = some (.int .i64 g.m) := cell_of b6 3 _ rfl
  have k4 : wc.cell? ⟨w.heap.size, 4, none⟩ = some (.int .u32 (g.seed : Nat)) := cell_of b6 4 _ rfl
  have k5 : wc.cell? ⟨w.heap.size, 5, none⟩ = some (.slice ra K rc) := cell_of b6 5 _ rfl
  have hlc := lt_of_block b6
  clear b6 pp0 pp1
  go_region_law ((first
   | (go_simp; go_at_call 137; (first | (with_reducible refine (HCG.out w6 wc wc t6 fc.out (Turned.refl _ _)).mono ?_) | (with_reducible refine (HCG.out w6 wc _ t6 fc.out (Turned.drew _ _)).mono ?_)); rintro e w8 ⟨a8, c8, rfl, hs8, t8, -⟩; have Y8 : Hid _ := hidS (And.intro hs8 t8); have b8 := HXW.out w6 wc w8 v6.out fc.out (t8.mono fun _ _ z => z.elim); have j0 : w8.cell? ⟨w.heap.size, 0, none⟩ = some (.int .i64 g.base) := cell_of b8 0 _ rfl; have j1 : w8.cell? ⟨w.heap.size, 1, none⟩ = some (.int .i64 g.h) := cell_of b8 1 _ rfl; have j2 : w8.cell? ⟨w.heap.size, 2, none⟩ = some (.int .i64 g.p) := cell_of b8 2 _ rfl; have j3 : w8.cell? ⟨w.heap.size, 3, none⟩ = some (.int .i64 g.m) := cell_of b8 3 _ rfl; have j4 : w8.cell? ⟨w.heap.size, 4, none⟩ = some (.int .u32 (g.seed : Nat)) := cell_of b8 4 _ rfl; have j5 : w8.cell? ⟨w.heap.size, 5, none⟩ = some (.slice ra K rc) := cell_of b8 5 _ rfl; have hl8 := lt_of_block b8; clear hs8 t8 b8)
   | (go_simp; go_at_call 137; (with_reducible refine (HCG.out w6 wc (wc.alloc (.cells #[.int .i64 g.base, .int .i64 g.h, .int .i64 g.p, .int .i64 g.m, .int .u32 (g.seed : Nat), .slice ra K rc] 123)).drew t6 fc.out ((Turned.alloc _ _ _).draw)).mono ?_); rintro e w8 ⟨a8, c8, rfl, hs8, t8, u8⟩; have Y8 : Hid _ := hidS (And.intro hs8 t8); have kb8 : Hid (w8.heap[wc.heap.size]? = some (.cells #[.int .i64 g.base, .int .i64 g.h, .int .i64 g.p, .int .i64 g.m, .int .u32 (g.seed : Nat), .slice ra K rc] 123)) := hidS (boxed (w := (wc.alloc (.cells #[.int .i64 g.base, .int .i64 g.h, .int .i64 g.p, .int .i64 g.m, .int .u32 (g.seed : Nat), .slice ra K rc] 123)).drew) (Go.Mine.heap_alloc_new wc _) u8 id); clear hs8 t8 u8)
   | (refine step_append (by rfl) _ _ 114 114 (by rfl) (Y8.out.1.turned (T := fun _ => False) (Turned.alloc _ w8 (.cells #[.int .i64 g.base, .int .i64 g.h, .int .i64 g.p, .int .i64 g.m, .int .u32 (g.seed : Nat), .slice ra K rc] 123)) fun _ _ z => z) Tryz.underlying114 infoC123 rfl (by decide) (by rfl) (.slice (some ⟨w8.heap.size, 0, none⟩) 1 1) (by rfl) (src123 [.int .i64 g.base, .int .i64 g.h, .int .i64 g.p, .int .i64 g.m, .int .u32 (g.seed : Nat), .slice ra K rc] rfl (by simp [Value.oneCell']) w8) m2.out.1 m2.out.2.1 ?_; intro v9 w9 hs9 ht9; obtain ⟨a9, c9, rfl, -, -⟩ := hs9.value; obtain ⟨y1, y2, y3, y4, y5⟩ := HPF.out w6 wc w9 t6 fc.out ((Y8.out.2.new _).comp ht9 fun i _ z => z.elim False.elim fun z => z.1); have Y9 : Hid _ := hidS (HMID.out w6 wc _ w9 _ _ _ _ _ t6 s6.out fc.out (Y8.out.2.new _) (fun b hb => hb.1) ht9 hs9); clear hs9 ht9)
   | (refine step_append (by rfl) _ _ 114 114 (by rfl) Y8.out.1 Tryz.underlying114 infoC123 rfl (by decide) (by rfl) (.slice (some ⟨wc.heap.size, 0, none⟩) 1 1) (by rfl) (src123_at [.int .i64 g.base, .int .i64 g.h, .int .i64 g.p, .int .i64 g.m, .int .u32 (g.seed : Nat), .slice ra K rc] rfl (by simp [Value.oneCell']) kb8.out) m2.out.1 m2.out.2.1 ?_; intro v9 w9 hs9 ht9; obtain ⟨a9, c9, rfl, -, -⟩ := hs9.value; obtain ⟨y1, y2, y3, y4, y5⟩ := HPF.out w6 wc w9 t6 fc.out (Y8.out.2.comp ht9 fun i _ z => z.elim False.elim fun z => z.1); have Y9 : Hid _ := hidS (HMID.out w6 wc _ w9 _ _ _ _ _ t6 s6.out fc.out Y8.out.2 (fun b hb => hb.1) ht9 hs9); clear hs9 ht9)))
  all_goals
   rename_i hK
   refine hK _ _ ?_
   rw [HZ.out]
   have hll : (linkX x links g).length = nl + 1 := by rw [HLK.out.1, HLK.out.2.1]; simp
   have hm := Y9.out
   rw [← hll] at hm ⊢
   exact lay_tail (X := ⟨linkX x links g, graphs ++ [g]⟩) hm HLO.out.1 HLO.out.2 HO3.out.1 HO3.out.2 HH.out.tab _ _ _ _ _ _ _ _ _ _ _ _ _ _ _ _ _ _ _ _ _ _ _ _ _ _ _ _ _ _ _ _ _ _ _ _ _ _ _ _ _ _ _ _ _ _ _ _ _ _ _ _ _ _ _ _ _ _ _ _ _ _ _ _ _ _ _ _ _ _ _ _ _ _ _ _ _ _ _ _ _ _ _ _ _ _ _ _ _ _ _ _ _ _ _ _ _ _ _ _ _ _ _ _ _ _ _ _ _ _ _ _ _ _ _ _ _ _ _ _ _ _ _ _ _ _
theorem xlay_any {w : World} {S SL SG SR : Nat → Prop} {rx : Nat → Nat} {d p : Nat} {lv gv : Value} {D : Dk} {x : Ix} {la ga ra : Option Addr} {lc gc rc : Nat} {links : List Ch.Ln} {graphs : List Gr} {gvs : List Value} {g : Gr} (h : LayIn w S rx d p lv gv D x SL SG SR la lc links ga gc graphs gvs ra rc g) :
  Calls Tryz.prog 62 #[pt p, .slice la links.length lc, .slice ga graphs.length gc, grv ra rc g] w (LayPost w S SR rx d p (layX D x links graphs g)) := by
 by_cases he : (encE g).2 = 0
 ·by_cases he2 : (encL (linkX x links g)).2 = 0
  ·obtain ⟨D1, k1, h1⟩ : ∃ D1 k, writeX D graphT (encE g).1 (Ch.nameS (Ch.nxt x.links)) = (D1, k) := ⟨_, _, rfl⟩
   by_cases q1 : k1 = 0
   ·subst q1
    obtain ⟨D2, k2, h2⟩ : ∃ D2 k, writeX D1 chainT (encL (linkX x links g)).1 chainB = (D2, k) := ⟨_, _, rfl⟩
    by_cases q2 : k2 = 0
    ·subst q2
     obtain ⟨D3, k3, h3⟩ : ∃ D3 k, D2.syncNames = (D3, k) := ⟨_, _, rfl⟩
     by_cases q3 : k3 = 0
     ·subst q3
      exact xlay_ok h he he2 h1 h2 h3
     ·exact xlay_e3c h he he2 h1 h2 h3 q3
    ·exact xlay_e3b h he he2 h1 h2 q2
   ·exact xlay_e3a h he he2 h1 q1
  ·exact xlay_e2 h he he2
 ·exact xlay_e1 h he
theorem LayPost.back {w W w' : World} {S S2 : Nat → Prop} {rx : Nat → Nat} {d p : Nat} {r : Dk × Ix × Nat} {e : Ending} (h : LayPost W S S2 rx d p r e w') (t : Turned (fun _ => False) w W) (hS : ∀ b, S2 b → rx b ≠ 0 ∨ w.heap.size ≤ b) : LayPost w S (fun _ => False) rx d p r e w' := by
 obtain ⟨h1, S', rx', lv', gv', a, b, c, e, f, g, i⟩ := h
 have z := t.size
 exact ⟨h1, S', rx', lv', gv', a, fun x hx => (b x hx).imp id fun q => by omega, c, e, fun x hx => (f x hx).elim .inl fun q => q.elim (fun q => (hS x q).imp id .inr) fun q => .inr (.inr (by omega)), g, t.comp i fun i _ q => q.elim False.elim id⟩
theorem LayPost.stay {w w' : World} {S : Nat → Prop} {rx : Nat → Nat} {d p : Nat} {lv gv : Value} {D : Dk} {x : Ix} {k : Nat} (hD : FsIs w S d D) (hsb : ∀ b, S b → b < w.heap.size) (hx : IxAt w rx p (pt d) lv gv x) (hdis : ∀ b, S b → rx b = 0) (t : Turned (fun _ => False) w w') : LayPost w S (fun _ => False) rx d p (D, x, k) (.returned (.int .i64 (k : Nat))) w' :=
 ⟨rfl, S, rx, lv, gv, hD.turned t fun _ _ z => z, fun b hb => .inl hb, fun b hb => Nat.lt_of_lt_of_le (hsb b hb) t.size, hx.turned t fun _ _ z => z, fun b hb => .inl hb, hdis, t.mono fun _ _ z => z.elim⟩
theorem newG_ok {s : St} {g : Stg} {base : Int} {known : List Int} (hb : 0 ≤ base ∧ base ≤ 524288) (hg : goodStg g) (hsd : g.seed < 4294967296) : GrOk (newG s g base known) := by
 obtain ⟨h1, h2, h3, h4, h5, h6⟩ := hg
 exact ⟨⟨by simp only [newG]; omega, by simp only [newG]; omega⟩, ⟨by simp only [newG]; omega, by simp only [newG]; omega⟩, ⟨by simp only [newG]; omega, by simp only [newG]; omega⟩, ⟨by simp only [newG]; omega, by simp only [newG]; omega⟩, hsd⟩
theorem readyE_zero {x : Ix} {s : St} {g : Stg} (h : readyE x s g = 0) : goodStg g ∧ x.len ≤ s.commits.length := by
 unfold readyE at h
 split at h
 ·simp at h
 ·rename_i q
  rw [not_or] at q
  exact ⟨Classical.not_not.1 q.1, by omega⟩
theorem readyE_small (x : Ix) (s : St) (g : Stg) : readyE x s g ≤ 1 := by unfold readyE; split <;> omega
set_option maxHeartbeats 4000000 in
theorem xcompact_any {w : World} {S : Nat → Prop} {rs rx : Nat → Nat} {d q p : Nat} {dv tv cv lv gv : Value} {D : Dk} {x : Ix} {s : St} (hD : FsIs w S d D) (hok : D.Ok) (hfew : Few D 800000000) (hsb : ∀ b, S b → b < w.heap.size) (hs : StAt 140 w rs q dv tv cv s) (hgood : StGood s) (hx : IxAt w rx p (pt d) lv gv x) (hxok : IxOk x) (hlow : Ch.Low x.links)
  (hdis : ∀ b, S b → rx b = 0) (g : Stg) (hsd : g.seed < 4294967296) (tab : ∀ W, Turned (fun b => S b ∨ b = p) w W → Ch.Tab W ∧ Ch.Errs W) :
  Calls Tryz.prog 19 #[pt p, .iface 34 (pt q), stgv g] w (LayPost w S (fun _ => False) rx d p (compactX D x s g)) := by
 obtain ⟨Z, hZ⟩ : ∃ Z, Z = LayPost w S (fun _ => False) rx d p (compactX D x s g) := ⟨_, rfl⟩
 have HZ : Hid (Z = LayPost w S (fun _ => False) rx d p (compactX D x s g)) := hZ
 rw [← hZ]
 have m1 := meth_commits q
 obtain ⟨V, hV⟩ : ∃ V, V = w.alloc (.cells #[.int .i64 g.h, .int .i64 g.p, .int .i64 g.m, .int .u32 (g.seed : Nat)] 24) := ⟨_, rfl⟩
 have HVV : Hid (V = w.alloc (.cells #[.int .i64 g.h, .int .i64 g.p, .int .i64 g.m, .int .u32 (g.seed : Nat)] 24)) := hV
 have tV : Turned (fun _ => False) w V := by rw [hV]; exact Turned.alloc _ _ _
 have xV : V.heap[w.heap.size]? = some (.cells #[.int .i64 g.h, .int .i64 g.p, .int .i64 g.m, .int .u32 (g.seed : Nat)] 24) := by rw [hV]; exact heap_alloc_new _ _
 have HXV : Hid (∀ W, Turned (fun _ => False) V W → W.cell? ⟨w.heap.size, 0, none⟩ = some (.int .i64 g.h) ∧ W.cell? ⟨w.heap.size, 1, none⟩ = some (.int .i64 g.p) ∧ W.cell? ⟨w.heap.size, 2, none⟩ = some (.int .i64 g.m) ∧ W.cell? ⟨w.heap.size, 3, none⟩ = some (.int .u32 (g.seed : Nat)) ∧ w.heap.size < W.heap.size) := fun W t => by
  have h := boxed xV t id
  exact ⟨cell_of h 0 _ rfl, cell_of h 1 _ rfl, cell_of h 2 _ rfl, cell_of h 3 _ rfl, lt_of_block h⟩
 have TV : Hid (Turned (fun _ => False) w V) := tV
 have HR : Hid (Calls Tryz.prog 61 #[pt p, .iface 34 (pt q), .agg #[.int .i64 g.h, .int .i64 g.p, .int .i64 g.m, .int .u32 (g.seed : Nat)]] V fun e w' => e = .returned (.int .i64 (readyE x s g : Nat)) ∧ Turned (fun _ => False) V w') := xready_any (hx.turned tV fun _ _ z => z) hxok (hs.turned tV fun _ _ z => z) g
 have HC : Hid (∀ W, Turned (fun _ => False) V W → Calls Tryz.prog 30 #[pt q] W fun e w' => e = .returned (.int .i64 (s.commits.length : Nat)) ∧ W = w') := fun W t => scommits_any ((hs.turned tV fun _ _ z => z).turned t fun _ _ z => z)
 have STAY : Hid (∀ k W, Turned (fun _ => False) V W → LayPost w S (fun _ => False) rx d p (D, x, k) (.returned (.int .i64 (k : Nat))) W) := fun k W t => LayPost.stay hD hsb hx hdis (tV.trans t fun _ _ z => z)
 obtain ⟨v0, v1, v2, v3, v4⟩ := HXV.out V (Turned.refl _ _)
 have hsm := readyE_small x s g
 obtain ⟨r, hr⟩ : ∃ r, r = readyE x s g := ⟨_, rfl⟩
 obtain ⟨C, hC⟩ : ∃ C, C = s.commits.length := ⟨_, rfl⟩
 rw [← hr] at HR hsm
 rw [← hC] at HC
 by_cases hr0 : r = 0
 ·subst hr0
  obtain ⟨hg, hlen⟩ := readyE_zero hr.symm
  by_cases hc0 : C = 0
  ·have HE : Hid (compactX D x s g = (D, x, 0)) := hidS (by unfold compactX; rw [if_neg (by rw [← hr]; simp), if_pos (by rw [← hC]; exact hc0)])
   subst hc0
   clear hZ hV tV xV hD hok hfew hsb hs hgood hx hxok hlow hdis hsd tab hr hC hg hlen hsm
   go_enter Tryz.func19, Tryz.ntmps19
   go_wp2_with fail
   rw [← HVV.out]
   go_wp2_with (first
    | (go_at_call 61; (with_reducible refine HR.out.mono ?_); rintro e w1 ⟨rfl, q1⟩; obtain ⟨u0, u1, u2, u3, u4⟩ := HXV.out w1 q1; replace q1 : Hid _ := hidS q1)
    | (go_at_call 30; (with_reducible refine (HC.out _ q1.out).mono ?_); rintro e w2 ⟨rfl, rfl⟩))
   rw [HZ.out, HE.out]
   exact STAY.out 0 _ q1.out
  ·have HE : Hid (compactX D x s g = layX D x [] [] (newG s g 0 [])) := hidS (by unfold compactX; rw [if_neg (by rw [← hr]; simp), if_neg (by rw [← hC]; exact hc0)])
   have d1 : ((C : Int) == 0) = false := by simp; omega
   have d2 : (C == 0) = false := by simp; omega
   obtain ⟨R, hR⟩ : ∃ R, R = rowsX s g s.commits.length [] := ⟨_, rfl⟩
   have hRl : R.length = C := by rw [hR, rowsX_len, hC]
   have HRW : Hid (∀ W, Turned (fun _ => False) V W → Calls Tryz.prog 63 #[.iface 34 (pt q), .agg #[.int .i64 g.h, .int .i64 g.p, .int .i64 g.m, .int .u32 (g.seed : Nat)], .slice none 0 0] W fun e w' => ∃ a c S2, e = .returned (.slice a C c) ∧ RwIs w' S2 a c R ∧ (∀ b, S2 b → V.heap.size ≤ b ∧ b < w'.heap.size) ∧ Turned (fun _ => False) V w') := fun W t => by
    refine (xrows_any ((hs.turned tV fun _ _ z => z).turned t fun _ _ z => z) hgood g hg hsd (S := fun _ => False) (ka := none) (kc := 0) (known := []) (Sl.nil _ _ _ _) (fun y hy => by simp at hy) (Nat.zero_le _)).mono fun e w' ⟨v, S2, S3, a, b, c, f, i, j⟩ => ?_
    have hzz := t.size
    obtain ⟨a', c', rfl, hri⟩ := b.is
    rw [List.length_nil, Nat.sub_zero, ← hR] at a hri
    rw [hRl] at a
    exact ⟨a', c', fun b => S2 b ∨ S3 b, a, hri, fun b hb => ⟨hb.elim (fun z => Nat.le_trans hzz (c b z)) fun z => Nat.le_trans hzz (f b z), i b hb⟩, t.trans j fun _ _ z => z⟩
   have HLY : Hid (∀ W a c S2, Turned (fun _ => False) V W → RwIs W S2 a c R → (∀ b, S2 b → V.heap.size ≤ b ∧ b < W.heap.size) → Calls Tryz.prog 62 #[pt p, .slice none 0 0, .slice none 0 0, .agg #[.int .i64 0, .int .i64 g.h, .int .i64 g.p, .int .i64 g.m, .int .u32 (g.seed : Nat), .slice a C c]] W (LayPost w S (fun _ => False) rx d p (layX D x [] [] (newG s g 0 [])))) := fun W a c S2 t hri hb => by
    have tW := tV.trans t fun _ _ z => z
    have zV := tV.size
    have hv := lt_of_block xV
    have hRn : (newG s g 0 []).rows = R := by rw [hR]; rfl
    have hin : LayIn W S rx d p lv gv D x (fun _ => False) (fun _ => False) S2 none 0 [] none 0 [] [] a c (newG s g 0 []) :=
     ⟨hD.turned tW fun _ _ z => z, hok, hfew, fun b z => Nat.lt_of_lt_of_le (hsb b z) tW.size, hx.turned tW fun _ _ z => z, hxok, hlow, hdis, Sl.nil _ _ _ _, fun y hy => by simp at hy, by simp, Sl.nil _ _ _ _, fun i y hi => by simp at hi, by simp, by rw [hRn]; exact hri, newG_ok (by omega) hg hsd, by rw [hRn, hRl, hC]; exact hgood.commits,
      fun b z => z.elim, fun b z => z.elim, fun b z => ⟨fun y => by have := hsb b y; have := (hb b z).1; omega, fun y => by have := lt_of_block hx.blk; have := (hb b z).1; omega, (hb b z).2⟩, fun X tX => tab X (tW.comp tX fun i _ z => z.elim False.elim id)⟩
    have := xlay_any hin
    unfold grv at this
    rw [hRn, hRl] at this
    exact this.mono fun e w' y => y.back tW fun b z => .inr (by have := (hb b z).1; omega)
   clear hZ hV tV xV hD hok hfew hsb hs hgood hx hxok hlow hdis hsd tab hr hC hg hlen hsm hR hRl hc0
   go_enter Tryz.func19, Tryz.ntmps19
   go_wp2_with fail
   rw [← HVV.out]
   go_wp2_with (first
    | (go_at_call 61; (with_reducible refine HR.out.mono ?_); rintro e w1 ⟨rfl, q1⟩; obtain ⟨u0, u1, u2, u3, u4⟩ := HXV.out w1 q1; replace q1 : Hid _ := hidS q1)
    | (go_at_call 30; (with_reducible refine (HC.out _ q1.out).mono ?_); rintro e w2 ⟨rfl, rfl⟩))
   clear v0 v1 v2 v3 v4
   go_region_law ((first
    | (go_simp; go_at_call 63; (first | (with_reducible refine (HRW.out w1 q1.out).mono ?_) | (with_reducible refine (HRW.out _ q1.out.draw).mono ?_)); rintro e w3 ⟨a3, c3, S3, rfl, r3, b3, t3⟩; have Y3 : Hid _ := hidS (And.intro r3 (And.intro b3 t3)); obtain ⟨x0, x1, x2, x3, x4⟩ := HXV.out w3 t3; clear r3 b3 t3)
    | (go_simp; go_at_call 62; (with_reducible refine (HLY.out w3 a3 c3 S3 Y3.out.2.2 Y3.out.1 Y3.out.2.1).mono ?_); rintro e w4 ⟨rfl, y4⟩; replace y4 : Hid _ := hidS y4)))
   all_goals go_wp2
   all_goals rw [HZ.out, HE.out]
   all_goals exact ⟨rfl, y4.out⟩
 ·have HE : Hid (compactX D x s g = (D, x, 1)) := hidS (by unfold compactX; rw [if_pos (by rw [← hr]; exact hr0), ← hr]; congr; omega)
  obtain rfl : r = 1 := by omega
  clear hZ hV tV xV hD hok hfew hsb hs hgood hx hxok hlow hdis hsd tab hr hC hsm hr0
  go_enter Tryz.func19, Tryz.ntmps19
  go_wp2_with fail
  rw [← HVV.out]
  go_wp2_with (first
   | (go_at_call 61; (with_reducible refine HR.out.mono ?_); rintro e w1 ⟨rfl, q1⟩; obtain ⟨u0, u1, u2, u3, u4⟩ := HXV.out w1 q1; replace q1 : Hid _ := hidS q1))
  rw [HZ.out, HE.out]
  exact STAY.out 1 _ q1.out
end Go.Proofs.YtofcogekgcgjhaaGreatDoor
