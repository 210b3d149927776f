/- Packed. -/
import Derived.Test.YtofcogekgcgjhaaGreatDoorZzbh
import Derived.Test.YtofcogekgcgjhaaGreatDoorZzbl
import Derived.Deep.RegionHeld3
set_option linter.unusedVariables false
set_option linter.unusedSimpArgs false
set_option maxRecDepth 100000
namespace Go.Proofs.YtofcogekgcgjhaaGreatDoor
open Go.RowKit Go.Mine Go.Mine.Ac
theorem layTail_1 {D D1 : Dk} {n : Int} {text list : ByteArray} {k : Nat} (h : writeX D graphT text (Ch.nameS n) = (D1, k)) (hk : k ≠ 0) : layTail D n text list = (D1, k) := by
 unfold layTail
 rw [h]
 cases k with
 | zero => exact absurd rfl hk
 | succ k => rfl
theorem layTail_2 {D D1 D2 : Dk} {n : Int} {text list : ByteArray} {k : Nat} (h : writeX D graphT text (Ch.nameS n) = (D1, 0)) (h2 : writeX D1 chainT list chainB = (D2, k)) (hk : k ≠ 0) : layTail D n text list = (D2, k) := by
 unfold layTail
 rw [h]
 simp only
 rw [h2]
 cases k with
 | zero => exact absurd rfl hk
 | succ k => rfl
theorem layTail_3 {D D1 D2 : Dk} {n : Int} {text list : ByteArray} (h : writeX D graphT text (Ch.nameS n) = (D1, 0)) (h2 : writeX D1 chainT list chainB = (D2, 0)) : layTail D n text list = D2.syncNames := by
 unfold layTail
 rw [h]
 simp only
 rw [h2]
 rfl
theorem layX_e1 {D : Dk} {x : Ix} {links : List Ch.Ln} {graphs : List Gr} {g : Gr} (h : (encE g).2 ≠ 0) : layX D x links graphs g = (D, x, (encE g).2) := by unfold layX; rw [if_pos h]
theorem layX_e2 {D : Dk} {x : Ix} {links : List Ch.Ln} {graphs : List Gr} {g : Gr} (h : (encE g).2 = 0) (h2 : (encL (linkX x links g)).2 ≠ 0) : layX D x links graphs g = (D, x, (encL (linkX x links g)).2) := by
 unfold layX; rw [if_neg (by simpa using h), if_pos h2]
theorem layX_e3 {D D1 : Dk} {x : Ix} {links : List Ch.Ln} {graphs : List Gr} {g : Gr} {k : Nat} (h : (encE g).2 = 0) (h2 : (encL (linkX x links g)).2 = 0) (h3 : layTail D (Ch.nxt x.links) (encE g).1 (encL (linkX x links g)).1 = (D1, k)) (hk : k ≠ 0) : layX D x links graphs g = (failX D1 (Ch.nxt x.links), x, k) := by
 unfold layX; rw [if_neg (by simpa using h), if_neg (by simpa using h2), h3]
 cases k with
 | zero => exact absurd rfl hk
 | succ k => rfl
theorem layX_ok {D D1 : Dk} {x : Ix} {links : List Ch.Ln} {graphs : List Gr} {g : Gr} (h : (encE g).2 = 0) (h2 : (encL (linkX x links g)).2 = 0) (h3 : layTail D (Ch.nxt x.links) (encE g).1 (encL (linkX x links g)).1 = (D1, 0)) :
  layX D x links graphs g = (sweepX (linkX x links g) D1.names D1, ⟨linkX x links g, graphs ++ [g]⟩, 0) := by
 unfold layX; rw [if_neg (by simpa using h), if_neg (by simpa using h2), h3]; rfl
/-! ### In memory -/
structure LayIn (w : World) (S : Nat → Prop) (rx : Nat → Nat) (d p : Nat) (lv gv : Value) (D : Dk) (x : Ix) (SL SG SR : Nat → Prop) (la : Option Addr) (lc : Nat) (links : List Ch.Ln) (ga : Option Addr) (gc : Nat) (graphs : List Gr) (gvs : List Value) (ra : Option Addr) (rc : Nat) (g : Gr) : Prop where
 disk : FsIs w S d D
 ok : D.Ok
 few : Few D 800000000
 sb : ∀ b, S b → b < w.heap.size
 ix : IxAt w rx p (pt d) lv gv x
 ixok : IxOk x
 low : Ch.Low x.links
 dis : ∀ b, S b → rx b = 0
 ls : Sl w SL 120 3 (.slice la links.length lc) (Ch.lcells links) links.length
 lok : Ch.LnOk links
 lmany : links.length ≤ 8
 gs : Sl w SG 123 6 (.slice ga graphs.length gc) gvs graphs.length
 gat : ∀ (i : Nat) (y : Gr), graphs[i]? = some y → ∃ a cap, gvs[i * 6]? = some (.int .i64 y.base) ∧ gvs[i * 6 + 1]? = some (.int .i64 y.h) ∧ gvs[i * 6 + 2]? = some (.int .i64 y.p) ∧ gvs[i * 6 + 3]? = some (.int .i64 y.m) ∧ gvs[i * 6 + 4]? = some (.int .u32 (y.seed : Nat)) ∧ gvs[i * 6 + 5]? = some (.slice a y.rows.length cap) ∧ GrOk y ∧ RwIs w SR a cap y.rows
 gmany : graphs.length ≤ 8
 rows : RwIs w SR ra rc g.rows
 gok : GrOk g
 gfew : g.rows.length ≤ 65536
 sl : ∀ b, SL b → ¬ S b
 sg : ∀ b, SG b → ¬ S b ∧ ¬ b = p
 sr : ∀ b, SR b → ¬ S b ∧ ¬ b = p ∧ b < w.heap.size
 tab : ∀ W, Turned (fun b => S b ∨ b = p) w W → Ch.Tab W ∧ Ch.Errs W
def LayPost (w : World) (S SR : Nat → Prop) (rx : Nat → Nat) (d p : Nat) (r : Dk × Ix × Nat) (e : Ending) (w' : World) : Prop :=
 e = .returned (.int .i64 (r.2.2 : Nat)) ∧ ∃ S' rx' lv' gv', FsIs w' S' d r.1 ∧ (∀ b, S' b → S b ∨ w.heap.size ≤ b) ∧ (∀ b, S' b → b < w'.heap.size) ∧ IxAt w' rx' p (pt d) lv' gv' r.2.1 ∧ (∀ b, rx' b ≠ 0 → rx b ≠ 0 ∨ SR b ∨ w.heap.size ≤ b) ∧ (∀ b, S' b → rx' b = 0) ∧ Turned (fun b => S b ∨ b = p) w w'
theorem LayIn.stay {w w' : World} {S SL SG SR : Nat → Prop} {rx : Nat → Nat} {d p : Nat} {lv gv : Value} {D : Dk} {x : Ix} {la ga ra : Option Addr} {lc gc rc : Nat} {links : List Ch.Ln} {graphs : List Gr} {gvs : List Value} {g : Gr} {k : Nat} (h : LayIn w S rx d p lv gv D x SL SG SR la lc links ga gc graphs gvs ra rc g)
  (t : Turned (fun _ => False) w w') : LayPost w S SR rx d p (D, x, k) (.returned (.int .i64 (k : Nat))) w' :=
 ⟨rfl, S, rx, lv, gv, h.disk.turned t fun _ _ z => z, fun b hb => .inl hb, fun b hb => Nat.lt_of_lt_of_le (h.sb b hb) t.size, h.ix.turned t fun _ _ z => z, fun b hb => .inl hb, h.dis, t.mono fun _ _ z => z.elim⟩
set_option maxHeartbeats 8000000 in
theorem xlay_e1 {w : World} {S SL SG SR : Nat → Prop} {rx : Nat → Nat} {d p : Nat} {lv gv : Value} {D : Dk} {x : Ix} {la ga ra : Option Addr} {lc gc rc : Nat} {links : List Ch.Ln} {graphs : List Gr} {gvs : List Value} {g : Gr} (h : LayIn w S rx d p lv gv D x SL SG SR la lc links ga gc graphs gvs ra rc g) (he : (encE g).2 ≠ 0) :
  Calls Tryz.prog 62 #[pt p, .slice la links.length lc, .slice ga graphs.length gc, grv ra rc g] w (LayPost w S SR rx d p (layX D x links graphs g)) := by
 rw [layX_e1 he]
 obtain ⟨Z, hZ⟩ : ∃ Z, Z = LayPost w S SR rx d p (D, x, (encE g).2) := ⟨_, rfl⟩
 have HZ : Hid (Z = LayPost w S SR rx d p (D, x, (encE g).2)) := hZ
 rw [← hZ]
 obtain ⟨V, hV⟩ : ∃ V, V = w.alloc (.cells #[.int .i64 g.base, .int .i64 g.h, .int .i64 g.p, .int .i64 g.m, .int .u32 (g.seed : Nat), .slice ra g.rows.length rc] 123) := ⟨_, rfl⟩
 have HVV : Hid (V = w.alloc (.cells #[.int .i64 g.base, .int .i64 g.h, .int .i64 g.p, .int .i64 g.m, .int .u32 (g.seed : Nat), .slice ra g.rows.length rc] 123)) := hV
 have tV : Turned (fun _ => False) w V := by rw [hV]; exact Turned.alloc _ _ _
 have xV : V.heap[w.heap.size]? = some (.cells #[.int .i64 g.base, .int .i64 g.h, .int .i64 g.p, .int .i64 g.m, .int .u32 (g.seed : Nat), .slice ra g.rows.length rc] 123) := by rw [hV]; exact heap_alloc_new _ _
 have HEN : Hid (Calls Tryz.prog 132 #[.agg #[.int .i64 g.base, .int .i64 g.h, .int .i64 g.p, .int .i64 g.m, .int .u32 (g.seed : Nat), .slice ra g.rows.length rc]] V fun e w' => e = .returned (.tuple #[.string (encE g).1, .int .i64 ((encE g).2 : Nat)]) ∧ Turned (fun _ => False) V w') := by
  have := encode_any SR ra rc g V (h.rows.turned tV fun _ _ z => z) h.gok
  rw [encG_eq] at this
  exact this
 have c0 : V.cell? ⟨w.heap.size, 0, none⟩ = some (.int .i64 g.base) := cell_of xV 0 _ rfl
 have c1 : V.cell? ⟨w.heap.size, 1, none⟩ = some (.int .i64 g.h) := cell_of xV 1 _ rfl
 have c2 : V.cell? ⟨w.heap.size, 2, none⟩ = some (.int .i64 g.p) := cell_of xV 2 _ rfl
 have c3 : V.cell? ⟨w.heap.size, 3, none⟩ = some (.int .i64 g.m) := cell_of xV 3 _ rfl
 have c4 : V.cell? ⟨w.heap.size, 4, none⟩ = some (.int .u32 (g.seed : Nat)) := cell_of xV 4 _ rfl
 have c5 : V.cell? ⟨w.heap.size, 5, none⟩ = some (.slice ra g.rows.length rc) := cell_of xV 5 _ rfl
 have hlt := lt_of_block xV
 have TV : Hid (Turned (fun _ => False) w V) := tV
 have HH : Hid _ := hidS h
 generalize encE g = E at *
 obtain ⟨T, k⟩ := E
 dsimp only at he HEN HZ
 have d1 : ((k : Int) == 0) = false := by simp; omega
 have d2 : ((k : Int) != 0) = true := by simp; omega
 clear hZ hV tV xV h he
 go_enter Tryz.func62, Tryz.ntmps62
 go_wp2_with fail
 rw [← HVV.out]
 go_wp2_with (go_at_call 132; (with_reducible refine HEN.out.mono ?_); rintro e w1 ⟨rfl, q⟩; replace q : Hid _ := hidS q)
 rw [HZ.out]
 exact LayIn.stay HH.out (TV.out.trans q.out fun _ _ z => z)
theorem built_size2 (l : List Ch) : (built l).size = 10 + 8 * l.length + dataSize l := by
 unfold built
 rw [sealed_size, ba_size]
 have h1 : (sortCh l).length = l.length := sortCh_length l
 have h2 : dataSize (sortCh l) = dataSize l := dataSize_perm (sortCh_perm l)
 simp only [bodyCh, magicC, List.length_append, List.length_cons, List.length_nil, num_length, tableCh_length, dataCh_length]
 omega
theorem encE_size (g : Gr) : (encE g).1.size ≤ 4194304 := by
 unfold encE
 split
 ·split
  ·simp [emp, ByteArray.size]
  ·split
   ·rename_i h
    rw [built_size2]
    unfold buildErr at h
    split at h
    ·simp at h
    ·split at h
     ·exact absurd h (by assumption)
     ·split at h
      ·simp at h
      ·omega
   ·simp [emp, ByteArray.size]
 ·simp [emp, ByteArray.size]
theorem encL_size (l : List Ch.Ln) : (encL l).1.size ≤ 1000 := by
 unfold encL
 split
 ·rename_i h
  have h1 := (Ch.lnErr_ok l h).1
  unfold Ch.toldLn
  rw [sealed_size]
  have h2 : ∀ (u : List UInt8), (⟨u.toArray⟩ : ByteArray).size = u.length := fun u => by simp [ByteArray.size]
  rw [h2]
  unfold Ch.bodyLn
  simp only [List.length_append, num_length, Ch.rowsLn_length, Ch.magicM, List.length_cons, List.length_nil]
  omega
 ·simp [emp, ByteArray.size]
theorem src120 (a b c : Value) (h1 : ∀ u ∈ [a, b, c], u.oneCell' = true) (U : World) : Src Tryz.prog 3 113 (.slice (some ⟨U.heap.size, 0, none⟩) 1 1) 1 [a, b, c] (U.alloc (.cells #[a, b, c] 120)) ∧ Src Tryz.prog 3 113 (.slice (some ⟨U.heap.size, 0, none⟩) 1 1) 1 [a, b, c] (U.alloc (.cells #[a, b, c] 120)).drew := ⟨src_new 120 Tryz.underlying113 _ h1 U, src_newD 120 Tryz.underlying113 _ h1 U⟩
theorem lcells_app (a b : List Ch.Ln) : Ch.lcells (a ++ b) = Ch.lcells a ++ Ch.lcells b := by
 induction a with
 | nil => rfl
 | cons x a ih => simp [Ch.lcells, ih]
theorem lcells_one (l : List Ch.Ln) : ∀ u ∈ Ch.lcells l, u.oneCell' = true := by
 induction l with
 | nil => simp [Ch.lcells]
 | cons x l ih =>
  intro u hu
  simp only [Ch.lcells, List.mem_cons] at hu
  rcases hu with rfl | rfl | rfl | hu
  ·rfl
  ·rfl
  ·rfl
  ·exact ih u hu
set_option maxHeartbeats 8000000 in
theorem xlay_e2 {w : World} {S SL SG SR : Nat → Prop} {rx : Nat → Nat} {d p : Nat} {lv gv : Value} {D : Dk} {x : Ix} {la ga ra : Option Addr} {lc gc rc : Nat} {links : List Ch.Ln} {graphs : List Gr} {gvs : List Value} {g : Gr} (h : LayIn w S rx d p lv gv D x SL SG SR la lc links ga gc graphs gvs ra rc g) (he : (encE g).2 = 0) (he2 : (encL (linkX x links g)).2 ≠ 0) :
  Calls Tryz.prog 62 #[pt p, .slice la links.length lc, .slice ga graphs.length gc, grv ra rc g] w (LayPost w S SR rx d p (layX D x links graphs g)) := by
 rw [layX_e2 he he2]
 obtain ⟨Z, hZ⟩ : ∃ Z, Z = LayPost w S SR rx d p (D, x, (encL (linkX x links g)).2) := ⟨_, rfl⟩
 have HZ : Hid (Z = LayPost w S SR rx d p (D, x, (encL (linkX x links g)).2)) := hZ
 rw [← hZ]
 obtain ⟨V, hV⟩ : ∃ V, V = w.alloc (.cells #[.int .i64 g.base, .int .i64 g.h, .int .i64 g.p, .int .i64 g.m, .int .u32 (g.seed : Nat), .slice ra g.rows.length rc] 123) := ⟨_, rfl⟩
 have HVV : Hid (V = w.alloc (.cells #[.int .i64 g.base, .int .i64 g.h, .int .i64 g.p, .int .i64 g.m, .int .u32 (g.seed : Nat), .slice ra g.rows.length rc] 123)) := hV
 have tV : Turned (fun _ => False) w V := by rw [hV]; exact Turned.alloc _ _ _
 have xV : V.heap[w.heap.size]? = some (.cells #[.int .i64 g.base, .int .i64 g.h, .int .i64 g.p, .int .i64 g.m, .int .u32 (g.seed : Nat), .slice ra g.rows.length rc] 123) := by rw [hV]; exact heap_alloc_new _ _
 have hsz := encE_size g
 have HEN : Hid (Calls Tryz.prog 132 #[.agg #[.int .i64 g.base, .int .i64 g.h, .int .i64 g.p, .int .i64 g.m, .int .u32 (g.seed : Nat), .slice ra g.rows.length rc]] V fun e w' => e = .returned (.tuple #[.string (encE g).1, .int .i64 0]) ∧ Turned (fun _ => False) V w') := by
  have := encode_any SR ra rc g V (h.rows.turned tV fun _ _ z => z) h.gok
  rw [encG_eq, he] at this
  exact this
 have c0 : V.cell? ⟨w.heap.size, 0, none⟩ = some (.int .i64 g.base) := cell_of xV 0 _ rfl
 have c1 : V.cell? ⟨w.heap.size, 1, none⟩ = some (.int .i64 g.h) := cell_of xV 1 _ rfl
 have c2 : V.cell? ⟨w.heap.size, 2, none⟩ = some (.int .i64 g.p) := cell_of xV 2 _ rfl
 have c3 : V.cell? ⟨w.heap.size, 3, none⟩ = some (.int .i64 g.m) := cell_of xV 3 _ rfl
 have c4 : V.cell? ⟨w.heap.size, 4, none⟩ = some (.int .u32 (g.seed : Nat)) := cell_of xV 4 _ rfl
 have c5 : V.cell? ⟨w.heap.size, 5, none⟩ = some (.slice ra g.rows.length rc) := cell_of xV 5 _ rfl
 have hlt := lt_of_block xV
 obtain ⟨nx, hnx⟩ : ∃ nx, nx = Ch.nxt x.links := ⟨_, rfl⟩
 obtain ⟨T, hT⟩ : ∃ T, T = (encE g).1 := ⟨_, rfl⟩
 obtain ⟨sm, hsm⟩ : ∃ sm, sm = Crc.sum (nums T) := ⟨_, rfl⟩
 have hlk : linkX x links g = links ++ [(nx, (g.rows.length : Int), sm)] := by unfold linkX; rw [← hnx, ← hT, ← hsm]
 rw [← hT] at HEN
 obtain ⟨xa, xc, hlv, hln⟩ := Ch.sl_lnIs h.ix.links (LnOk.of h.ixok)
 subst hlv
 have p1 : w.cell? ⟨p, 1, none⟩ = some (.slice xa x.links.length xc) := cell_of h.ix.blk 1 _ rfl
 have p1V := cell_at p1 tV id
 have HPX : Hid (∀ W, Turned (fun _ => False) V W → W.cell? ⟨p, 1, none⟩ = some (.slice xa x.links.length xc) ∧ p < W.heap.size) := fun W t => ⟨cell_at p1V t id, Nat.lt_of_lt_of_le (lt_of_block h.ix.blk) (Nat.le_trans tV.size t.size)⟩
 have HNX : Hid (∀ W, Turned (fun _ => False) V W → Calls Tryz.prog 133 #[.slice xa x.links.length xc] W fun e w' => e = .returned (.int .i64 nx) ∧ Turned (fun _ => False) V w') := fun W t => by
  rw [hnx]
  exact (Ch.next_any xa xc x.links W ((hln.turned tV).turned t) (by have := h.ixok.many; omega) h.low).mono fun e w' ⟨a, b⟩ => ⟨a, t.trans b fun _ _ z => z⟩
 obtain ⟨nl, hnl⟩ : ∃ nl, nl = links.length := ⟨_, rfl⟩
 have HCL : Hid (∀ W, Turned (fun _ => False) V W → Calls Tryz.prog 134 #[.slice la nl lc] W fun e w' => ∃ a c, e = .returned (.slice a nl c) ∧ Sl w' (fun b => V.heap.size ≤ b) 120 3 (.slice a nl c) (Ch.lcells links) nl ∧ Turned (fun _ => False) V w' ∧ Turned (fun _ => False) W w') := fun W t => by
  rw [hnl]
  have hl := (h.ls.turned tV fun _ _ z => z).turned t fun _ _ z => z
  refine (clone_links W (fun w' t' => (hl.turned t' fun _ _ z => z).src Tryz.underlying113 (lcells_one _)) (sl_none hl) (by have := h.lmany; omega)).mono fun e w' ⟨v, a, b, c⟩ => ?_
  obtain ⟨ca, cc, rfl, -, -⟩ := b.value
  exact ⟨ca, cc, a, b.widen fun x hx => Nat.le_trans t.size hx, t.trans c fun _ _ z => z, c⟩
 have HSM : Hid (∀ W b, Turned (fun _ => False) V W → W.heap[b]? = some (.cells #[.string T] 9) → Calls Tryz.prog 124 #[.slice (some ⟨b, 0, none⟩) 1 1] W fun e w' => e = .returned (.int .u32 (sm : Nat)) ∧ Turned (fun _ => False) V w' ∧ Turned (fun _ => False) W w') := fun W b t hb => by
  rw [hsm]
  exact (sum_one b 0 1 T W (cell_of hb 0 _ rfl) (lt_of_block hb) (by rw [hT]; omega)).mono fun e w' ⟨a, q⟩ => ⟨a, t.trans q fun _ _ z => z, q⟩
 have TV : Hid (Turned (fun _ => False) w V ∧ w.heap.size < V.heap.size) := ⟨tV, hlt⟩
 have HXV : Hid (∀ W (Q : Nat → Prop), Turned Q V W → ¬ Q w.heap.size → W.cell? ⟨w.heap.size, 5, none⟩ = some (.slice ra g.rows.length rc) ∧ w.heap.size < W.heap.size) := fun W Q t z => ⟨cell_at c5 t z, Nat.lt_of_lt_of_le hlt t.size⟩
 have HH : Hid _ := hidS h
 obtain ⟨K, hK⟩ : ∃ K, K = g.rows.length := ⟨_, rfl⟩
 rw [← hK] at c5 HXV HEN hlk HVV
 have HLK : Hid (linkX x links g = links ++ [(nx, (K : Int), sm)] ∧ nl = links.length ∧ K = g.rows.length) := ⟨hlk, hnl, hK⟩
 have m1 : Hid (nl + 1 ≤ maxLen ∧ (nl + 1) * 24 ≤ 140737488355328) := hidS (by have := h.lmany; simp only [maxLen]; omega)
 rw [← hnl]
 dsimp only [grv]
 rw [← hK]
 have hnb := Ch.nxt_bound x.links h.low
 have HCE : Hid (∀ (W : World) (S' : Nat → Prop) (a : Option Addr) (c : Nat), Sl W S' 120 3 (.slice a (nl + 1) c) (Ch.lcells links ++ [.int .i64 nx, .int .i64 (K : Int), .int .u32 (sm : Nat)]) (nl + 1) → Calls Tryz.prog 135 #[.slice a (nl + 1) c] W fun e w' => e = .returned (.tuple #[.string (encL (linkX x links g)).1, .int .i64 ((encL (linkX x links g)).2 : Nat)]) ∧ Turned (fun _ => False) W w') := fun W S' a c hs => by
  have hll : (linkX x links g).length = nl + 1 := by rw [hlk, hnl]; simp
  have hcc : Ch.lcells (linkX x links g) = Ch.lcells links ++ [.int .i64 nx, .int .i64 (K : Int), .int .u32 (sm : Nat)] := by rw [hlk, lcells_app]; rfl
  rw [← hcc, ← hll] at hs
  obtain ⟨a', c', hv, hl⟩ := Ch.sl_lnIs hs fun y hy => by
   rw [hlk] at hy
   rcases List.mem_append.1 hy with q | q
   ·exact h.lok y q
   ·rw [List.mem_singleton] at q
    subst q
    have := h.gfew
    refine ⟨⟨by simp only; omega, by simp only; omega⟩, ⟨by simp only; omega, by simp only; omega⟩, ?_⟩
    simp only
    rw [hsm]
    exact crcsum_lt _
  simp only [Value.slice.injEq] at hv
  obtain ⟨rfl, -, rfl⟩ := hv
  have := Ch.encode_any a c (linkX x links g) W hl
  rw [encV_eq, hll] at this
  exact this
 obtain ⟨k2, hk2⟩ : ∃ k2, k2 = (encL (linkX x links g)).2 := ⟨_, rfl⟩
 rw [← hk2] at HCE HZ he2
 have d1 : ((k2 : Int) == 0) = false := by simp; omega
 have d2 : ((k2 : Int) != 0) = true := by simp; omega
 clear hnb hk2 he2
 clear hZ hV tV xV h he hsz hnx hT hsm hlk hln p1 p1V hnl hK
 go_enter Tryz.func62, Tryz.ntmps62
 go_wp2_with fail
 rw [← HVV.out]
 go_wp2_with (first | (go_at_call 132; (with_reducible refine HEN.out.mono ?_); rintro e w1 ⟨rfl, q1⟩; obtain ⟨p1, p2⟩ := HPX.out w1 q1; replace q1 : Hid _ := hidS q1) | (go_at_call 133; (with_reducible refine (HNX.out _ q1.out).mono ?_); rintro e w2 ⟨rfl, q2⟩; replace q2 : Hid _ := hidS q2))
 have q0 : ¬ V.heap.size ≤ w.heap.size := by have := TV.out.2; omega
 have HXE : Hid (∀ W, Turned (fun _ => False) V W → W.cell? ⟨w.heap.size, 5, none⟩ = some (.slice ra K rc)) := fun W t => (HXV.out W _ t id).1
 have HXF : Hid (∀ W, Turned (fun b => V.heap.size ≤ b) V W → W.cell? ⟨w.heap.size, 5, none⟩ = some (.slice ra K rc)) := fun W t => (HXV.out W _ t (by have := TV.out.2; omega)).1
 clear c0 c1 c2 c3 c4 c5 p1 p2
 go_region_held3 (fun W => W.cell? ⟨w.heap.size, 5, none⟩ = some (.slice ra K rc))
  (first | (exact HXE.out _ q2.out.draw) | (exact HXE.out _ ((q2.out.new _).draw)) | (exact HXE.out _ (by assumption)) | (exact HXF.out _ (by assumption)) | (exact HXE.out _ ((by assumption : Turned (fun _ => False) V _).new _)) | go_keep)
  (first
   | (go_at_call 134; (with_reducible refine (HCL.out w2.drew q2.out.draw).mono ?_); rintro e3 w3 ⟨a3, c3, rfl, hs3, ht3, hu3⟩; replace hs3 : Hid _ := hidS hs3; clear hu3)
   | (go_at_call 134; (with_reducible refine (HCL.out (w2.alloc (.cells #[.string T] 9)).drew ((q2.out.new _).draw)).mono ?_); rintro e3 w3 ⟨a3, c3, rfl, hs3, ht3, hu3⟩; have kb3 := boxed (w := (w2.alloc (.cells #[.string T] 9)).drew) (Go.Mine.heap_alloc_new w2 _) hu3 id; replace hs3 : Hid _ := hidS hs3; clear hu3)
   | (go_at_call 134; (with_reducible refine (HCL.out w4 ht4).mono ?_); rintro e3 w3 ⟨a3, c3, rfl, hs3, ht3, hu3⟩; replace hs3 : Hid _ := hidS hs3; clear hu3)
   | (go_at_call 124; (with_reducible refine (HSM.out (w3.alloc (.cells #[.string T] 9)) w3.heap.size (ht3.new _) (Go.Mine.heap_alloc_new w3 _)).mono ?_); rintro e4 w4 ⟨rfl, ht4, hu4⟩; have hs4 : Hid _ := hidS (hs3.out.turned ((Turned.alloc (fun _ => False) w3 _).trans hu4 fun _ _ z => z) fun _ _ z => z); clear hu4)
   | (go_at_call 124; (with_reducible refine (HSM.out w3 w2.heap.size ht3 kb3).mono ?_); rintro e4 w4 ⟨rfl, ht4, hu4⟩; have hs4 : Hid _ := hidS (hs3.out.turned hu4 fun _ _ z => z); clear hu4)
   | (go_at_call 124; (with_reducible refine (HSM.out (w2.alloc (.cells #[.string T] 9)).drew w2.heap.size ((q2.out.new _).draw) (Go.Mine.heap_alloc_new w2 _)).mono ?_); rintro e4 w4 ⟨rfl, ht4, hu4⟩; clear hu4)
   | (refine step_append (by rfl) _ _ 113 113 (by rfl) (hs4.out.turned (T := fun _ => False) (Turned.alloc _ w4 (.cells #[.int .i64 nx, .int .i64 (K : Int), .int .u32 (sm : Nat)] 120)) fun _ _ z => z) Tryz.underlying113 infoC120 rfl (by decide) (by rfl) (.slice (some ⟨w4.heap.size, 0, none⟩) 1 1) (by rfl) (src120 (.int .i64 nx) (.int .i64 (K : Int)) (.int .u32 (sm : Nat)) (by simp [Value.oneCell']) w4).1 m1.out.1 m1.out.2 ?_; intro v5 w5 hs5 ht5; obtain ⟨a5, c5', rfl, -, -⟩ := hs5.value; have T5 : Turned (fun b => V.heap.size ≤ b) V w5 := (ht4.new _).comp ht5 (fun i _ z => z.elim False.elim id); have Y5 : Hid _ := hidS hs5; clear hs5 ht5)
   | (refine step_append (by rfl) _ _ 113 113 (by rfl) (hs3.out.turned (T := fun _ => False) (Turned.alloc _ w3 (.cells #[.int .i64 nx, .int .i64 (K : Int), .int .u32 (sm : Nat)] 120)) fun _ _ z => z) Tryz.underlying113 infoC120 rfl (by decide) (by rfl) (.slice (some ⟨w3.heap.size, 0, none⟩) 1 1) (by rfl) (src120 (.int .i64 nx) (.int .i64 (K : Int)) (.int .u32 (sm : Nat)) (by simp [Value.oneCell']) w3).1 m1.out.1 m1.out.2 ?_; intro v5 w5 hs5 ht5; obtain ⟨a5, c5', rfl, -, -⟩ := hs5.value; have T5 : Turned (fun b => V.heap.size ≤ b) V w5 := (ht3.new _).comp ht5 (fun i _ z => z.elim False.elim id); have Y5 : Hid _ := hidS hs5; clear hs5 ht5))
 all_goals
  go_wp2_with (go_at_call 135; (with_reducible refine (HCE.out w5 _ _ _ Y5.out).mono ?_); rintro e6 w6 ⟨rfl, ht6⟩; have q6 : Hid _ := hidS ht6; clear ht6)
  rw [HZ.out]
  exact LayIn.stay HH.out ((TV.out.1.comp (T5.trans q6.out fun _ _ z => z.elim) fun i hi z => z.elim id fun z => by have := TV.out.2; omega))
end Go.Proofs.YtofcogekgcgjhaaGreatDoor
